/- Layer 4: the law UnitOwn. -/
import Derived.Test.YtlafkeijikbenacApF
import Derived.Test.YtlafkeijikbenacBrO
import Derived.Test.YtlafkeijikbenacCellsU
import Derived.Deep.QuietTactic
import Derived.Deep.Cut
namespace Go.Proofs.Ytlafkeijikbenac.S04
open Go Go.RowKit Go.Proofs.Ytlafkeijikbenac.Hp Go.Proofs.Ytlafkeijikbenac.Sl Go.Proofs.Ytlafkeijikbenac.Ap Go.Proofs.Ytlafkeijikbenac.Br Go.Proofs.Ytlafkeijikbenac.BrO Go.Proofs.Ytlafkeijikbenac.Fit Go.Proofs.Ytlafkeijikbenac.Cells
open Go.Proofs.Ytlafkeijikbenac.Pure (law law_zero)
set_option linter.unusedVariables false
set_option linter.unusedSimpArgs false
theorem itemBytes {W : World} {p : LItem} (h : p.ok W) : Bytes W p.v p.l := by
  rcases h.row with h | ⟨g, h⟩
  · exact .inl h
  · exact h.bytes
set_option maxRecDepth 100000 in
set_option maxHeartbeats 6400000 in
theorem UnitOwn_walk (a b c d e : Int) (s : Value) (l : List Int) (w : World) (hb : Bytes w s l) (hl : l.length ≤ reachBytes) (hby : Gf.By l) (h1 : 0 ≤ b ∧ b < 4294967296) (h2 : 0 ≤ c ∧ c < 4294967296) (h3 : 0 ≤ d ∧ d < 4294967296) :
    Calls Try.prog 7 #[.agg #[.int .i64 a, .int .u32 b, .int .u32 c, .int .u32 d, .int .i64 e, s]] w fun e w' => e = .returned (.bool true) ∧ Below w.heap.size w w' := by
  have hH := Has.new w 29 [.int .i64 a, .int .u32 b, .int .u32 c, .int .u32 d, .int .i64 e, s]
  have hk := (Kept.refl [] w).alloc (.cells #[.int .i64 a, .int .u32 b, .int .u32 c, .int .u32 d, .int .i64 e, s] 29)
  have hB := hb.kept hk (by simp)
  obtain ⟨sp, sc, rfl⟩ : ∃ p c, s = .slice p l.length c := by rcases hb with ⟨rfl, rfl⟩ | ⟨x, cap, rfl, _⟩ <;> exact ⟨_, _, rfl⟩
  have SB := Lib.hid hb
  have BY := Lib.hid hby
  have R1 := Lib.hid h1
  have R2 := Lib.hid h2
  have R3 := Lib.hid h3
  clear hb hl h1 h2 h3 hby
  go_enter Try.func7, Try.ntmps7
  go_upto_region 1 with (fail)
  have hH : Has (w.alloc (.cells #[.int .i64 a, .int .u32 b, .int .u32 c, .int .u32 d, .int .i64 e, .slice sp l.length sc] 29)) w.heap.size 29 [.int .i64 a, .int .u32 b, .int .u32 c, .int .u32 d, .int .i64 e, .slice sp l.length sc] := hH
  generalize w.alloc (.cells #[.int .i64 a, .int .u32 b, .int .u32 c, .int .u32 d, .int .i64 e, .slice sp l.length sc] 29) = w0 at *
  have ZB := Lib.hid (Nat.le_refl w.heap.size)
  generalize hBz : w.heap.size = B at *
  have HK := Lib.hid hk
  have HH := Lib.hid hH
  clear hk hB hH
  go_wp2_with fail
  refine (awake_call _).mono ?_
  rintro x w1 ⟨rfl, k1⟩
  have H1 := Lib.hid (k1.has HH.out (by simp))
  have K1 := Lib.hid (HK.out.trans k1)
  have c5 := H1.out.cell 5 (v := .slice sp l.length sc) rfl
  clear HH k1 HK
  by_cases hlen : 1000 < l.length
  · have e2 : decide ((l.length : Int) > 1000) = true := by simp; omega
    clear hlen
    go_wp2_with fail
    go_ret
    exact ⟨rfl, hBz ▸ K1.out.toBelow (by simp)⟩
  have e2 : decide ((l.length : Int) > 1000) = false := by simp; omega
  have H8 := Lib.hid (show l.length ≤ 1000 by omega)
  clear hlen
  go_wp2_with fail
  refine (spare_call _ l _ (SB.out.kept K1.out (by simp)) (by have := H8.out; omega)).mono ?_
  rintro x w2 ⟨gI, rfl, k2, hgI, hW⟩
  have K2 := Lib.hid (K1.out.trans k2)
  have W2 := Lib.hid hW
  have H2 := Lib.hid (k2.has H1.out (by simp))
  have Z2 := Lib.hid (show B ≤ gI ∧ gI < w2.heap.size from ⟨by have := K1.out.size; omega, hW.lt⟩)
  clear k2 hgI hW c5 H1 K1
  have c0 := H2.out.cell 0 (v := .int .i64 a) rfl
  have c1 := H2.out.cell 1 (v := .int .u32 b) rfl
  have c2 := H2.out.cell 2 (v := .int .u32 c) rfl
  have c3 := H2.out.cell 3 (v := .int .u32 d) rfl
  have c4 := H2.out.cell 4 (v := .int .i64 e) rfl
  have c5 := H2.out.cell 5 (v := .slice sp l.length sc) rfl
  go_upto_region 8 with (fail)
  have kV := (Kept.refl [] w2).alloc (.cells #[.int .i64 a, .int .u32 b, .int .u32 c, .int .u32 d, .int .i64 e, .slice (some ⟨gI, 0, none⟩) l.length (l.length + 9)] 29)
  have hV : Has (w2.alloc (.cells #[.int .i64 a, .int .u32 b, .int .u32 c, .int .u32 d, .int .i64 e, .slice (some ⟨gI, 0, none⟩) l.length (l.length + 9)] 29)) w2.heap.size 29 [.int .i64 a, .int .u32 b, .int .u32 c, .int .u32 d, .int .i64 e, .slice (some ⟨gI, 0, none⟩) l.length (l.length + 9)] := Has.new w2 _ _
  have K3 := Lib.hid (K2.out.trans kV)
  have V3 := Lib.hid hV
  have W3 := Lib.hid (kV.has W2.out (by simp))
  have H3 := Lib.hid (kV.has H2.out (by simp))
  clear c0 c1 c2 c3 c4 c5 kV hV W2 H2 K2
  generalize w2.alloc (.cells #[.int .i64 a, .int .u32 b, .int .u32 c, .int .u32 d, .int .i64 e, .slice (some ⟨gI, 0, none⟩) l.length (l.length + 9)] 29) = w3 at *
  generalize w2.heap.size = V at *
  have I3 := Lib.hid (own_whole W3.out (by have := H8.out; omega)).bytes
  have c0 := V3.out.cell 0 (v := .int .i64 a) rfl
  have c1 := V3.out.cell 1 (v := .int .u32 b) rfl
  have c2 := V3.out.cell 2 (v := .int .u32 c) rfl
  have c3 := V3.out.cell 3 (v := .int .u32 d) rfl
  have c4 := V3.out.cell 4 (v := .int .i64 e) rfl
  have c5 := V3.out.cell 5 (v := .slice (some ⟨gI, 0, none⟩) l.length (l.length + 9)) rfl
  by_cases hlaw : law a b c d e (l.length : Int) = 0
  case neg =>
    have n1 : (law a b c d e (l.length : Int) != 0) = true := by simpa using hlaw
    have EC := Lib.hid (fun W hs => encode_not a b c d e (.slice (some ⟨gI, 0, none⟩) l.length (l.length + 9)) l W hs hlaw)
    generalize law a b c d e (l.length : Int) = lw at *
    clear hlaw
    go_wp2_with fail
    refine (EC.out w3 I3.out).mono ?_
    rintro x w4 ⟨v4, rfl, k4, m4⟩
    have K4 := Lib.hid (K3.out.trans k4)
    have V4 := Lib.hid (k4.has V3.out (by simp))
    have W4 := Lib.hid (k4.has W3.out (by simp))
    have H4 := Lib.hid (k4.has H3.out (by simp))
    have I4 := Lib.hid (own_whole W4.out (by have := H8.out; omega)).bytes
    clear c0 c1 c2 c3 c4 c5 k4 m4 K3 V3 W3 H3 I3
    have c0 := V4.out.cell 0 (v := .int .i64 a) rfl
    have c1 := V4.out.cell 1 (v := .int .u32 b) rfl
    have c2 := V4.out.cell 2 (v := .int .u32 c) rfl
    have c3 := V4.out.cell 3 (v := .int .u32 d) rfl
    have c4 := V4.out.cell 4 (v := .int .i64 e) rfl
    have c5 := V4.out.cell 5 (v := .slice (some ⟨gI, 0, none⟩) l.length (l.length + 9)) rfl
    go_wp2_with fail
    refine (EC.out w4 I4.out).mono ?_
    rintro x w5 ⟨v5, rfl, k5, m5⟩
    have K5 := Lib.hid (K4.out.trans k5)
    have W5 := Lib.hid (k5.has W4.out (by simp))
    have H5 := Lib.hid (k5.has H4.out (by simp))
    have KC := Lib.hid (kept_call gI _ l w5 (SB.out.kept K5.out (by simp)) W5.out (by have := H8.out; omega))
    clear c0 c1 c2 c3 c4 c5 k5 m5 K4 V4 W4 H4 I4
    have c5 := H5.out.cell 5 (v := .slice sp l.length sc) rfl
    go_wp2_with fail
    refine KC.out.mono ?_
    rintro x w6 ⟨rfl, k6⟩
    have K6 := Lib.hid (K5.out.trans k6)
    clear k6 KC c5
    go_wp2_with fail
    go_ret
    exact ⟨rfl, hBz ▸ K6.out.toBelow (by simp)⟩
  have EC := Lib.hid (fun W hs => encode_yes a b c d e (.slice (some ⟨gI, 0, none⟩) l.length (l.length + 9)) l W hs BY.out hlaw)
  have DC := Lib.hid (fun s W hs => decode_back a b c d e s l W hs BY.out R1.out R2.out R3.out hlaw)
  have FLn := Lib.hid (show (frame a b c d e l).length = 19 + l.length ∧ l.length ≤ 8 from ⟨frame_length a b c d e l, by have := (law_zero hlaw).2.2.2.2; omega⟩)
  generalize frame a b c d e l = fr at *
  clear hlaw
  go_wp2_with fail
  refine (EC.out w3 I3.out).mono ?_
  rintro x w4 ⟨va, rfl, k4, m4⟩
  have K4 := Lib.hid (K3.out.trans k4)
  have V4 := Lib.hid (k4.has V3.out (by simp))
  have W4 := Lib.hid (k4.has W3.out (by simp))
  have H4 := Lib.hid (k4.has H3.out (by simp))
  have I4 := Lib.hid (own_whole W4.out (by have := H8.out; omega)).bytes
  have A4 := Lib.hid (ok_of_made m4 (by have := FLn.out; omega))
  have Z4 := Lib.hid (show gI < w3.heap.size ∧ w3.heap.size ≤ w4.heap.size from ⟨W3.out.lt, k4.size⟩)
  clear c0 c1 c2 c3 c4 c5 k4 m4 K3 V3 W3 H3 I3
  have c0 := V4.out.cell 0 (v := .int .i64 a) rfl
  have c1 := V4.out.cell 1 (v := .int .u32 b) rfl
  have c2 := V4.out.cell 2 (v := .int .u32 c) rfl
  have c3 := V4.out.cell 3 (v := .int .u32 d) rfl
  have c4 := V4.out.cell 4 (v := .int .i64 e) rfl
  have c5 := V4.out.cell 5 (v := .slice (some ⟨gI, 0, none⟩) l.length (l.length + 9)) rfl
  go_wp2_with fail
  refine (EC.out w4 I4.out).mono ?_
  rintro x w5 ⟨vb, rfl, k5, m5⟩
  have K5 := Lib.hid (K4.out.trans k5)
  have W5 := Lib.hid (k5.has W4.out (by simp))
  have H5 := Lib.hid (k5.has H4.out (by simp))
  have A5 := Lib.hid (A4.out.kept k5)
  have B5 := Lib.hid (ok_of_made m5 (by have := FLn.out; omega))
  have Z5 := Lib.hid k5.size
  have KC := Lib.hid (kept_call gI _ l w5 (SB.out.kept K5.out (by simp)) W5.out (by have := H8.out; omega))
  clear c0 c1 c2 c3 c4 c5 k5 m5 K4 V4 W4 H4 I4 A4
  have c5 := H5.out.cell 5 (v := .slice sp l.length sc) rfl
  go_wp2_with fail
  refine KC.out.mono ?_
  rintro x w6 ⟨rfl, k6⟩
  have K6 := Lib.hid (K5.out.trans k6)
  have W6 := Lib.hid (k6.has W5.out (by simp))
  have A6 := Lib.hid (A5.out.kept k6)
  have B6 := Lib.hid (B5.out.kept k6)
  have Z6 := Lib.hid k6.size
  obtain ⟨pa, qa, ea, _⟩ := Row.shape2 A6.out.row
  obtain ⟨pb, qb, eb, _⟩ := Row.shape2 B6.out.row
  simp only at ea eb
  subst ea
  subst eb
  clear k6 KC c5 K5 W5 H5 A5 B5
  go_wp2_with fail
  refine (spare_call _ fr _ (itemBytes A6.out) (by have := FLn.out; omega)).mono ?_
  rintro x w7 ⟨gF, rfl, k7, hgF, hF⟩
  have K7 := Lib.hid (K6.out.trans k7)
  have W7 := Lib.hid (k7.has W6.out (by simp))
  have A7 := Lib.hid (A6.out.kept k7)
  have B7 := Lib.hid (B6.out.kept k7)
  have F7 := Lib.hid hF
  have IF := Lib.hid (own_whole hF (by have := FLn.out; omega)).bytes
  have Z7 := Lib.hid (show w6.heap.size ≤ gF ∧ gF < w7.heap.size from ⟨hgF, hF.lt⟩)
  clear k7 hgF hF K6 W6 A6 B6
  go_wp2_with fail
  refine (DC.out _ w7 IF.out).mono ?_
  rintro x w8 ⟨vx, rfl, k8, m8⟩
  obtain ⟨px, qx, rfl⟩ := m8.shape
  have kX := k8.alloc (.cells #[.int .i64 a, .int .u32 b, .int .u32 c, .int .u32 d, .int .i64 e, .slice px l.length qx] 29)
  have kX' := (Kept.refl [] w8).alloc (.cells #[.int .i64 a, .int .u32 b, .int .u32 c, .int .u32 d, .int .i64 e, .slice px l.length qx] 29)
  have K8 := Lib.hid (K7.out.trans kX)
  have W8 := Lib.hid (kX.has W7.out (by simp))
  have A8 := Lib.hid (A7.out.kept kX)
  have B8 := Lib.hid (B7.out.kept kX)
  have F8 := Lib.hid (kX.has F7.out (by simp))
  have X8 := Lib.hid ((ok_of_made m8 (by have := FLn.out; omega)).kept kX')
  have IF8 := Lib.hid (IF.out.kept kX (by simp))
  have Z8 := Lib.hid (show w7.heap.size ≤ w8.heap.size ∧ w8.heap.size ≤ (w8.alloc (.cells #[.int .i64 a, .int .u32 b, .int .u32 c, .int .u32 d, .int .i64 e, .slice px l.length qx] 29)).heap.size from ⟨k8.size, kX'.size⟩)
  have O8 := Lib.hid (Has.new w8 29 [.int .i64 a, .int .u32 b, .int .u32 c, .int .u32 d, .int .i64 e, .slice px l.length qx])
  clear k8 m8 kX kX' K7 W7 A7 B7 F7 IF
  go_upto_region 16 with (fail)
  have O8 := Lib.hid (show Has (w8.alloc (.cells #[.int .i64 a, .int .u32 b, .int .u32 c, .int .u32 d, .int .i64 e, .slice px l.length qx] 29)) w8.heap.size 29 [.int .i64 a, .int .u32 b, .int .u32 c, .int .u32 d, .int .i64 e, .slice px l.length qx] from O8.out)
  generalize w8.alloc (.cells #[.int .i64 a, .int .u32 b, .int .u32 c, .int .u32 d, .int .i64 e, .slice px l.length qx] 29) = w9 at *
  generalize hQ8 : w8.heap.size = Q8 at *
  go_wp2_with fail
  refine (DC.out _ w9 IF8.out).mono ?_
  rintro x wa ⟨vy, rfl, ka, ma⟩
  obtain ⟨py, qy, rfl⟩ := ma.shape
  have kY := ka.alloc (.cells #[.int .i64 a, .int .u32 b, .int .u32 c, .int .u32 d, .int .i64 e, .slice py l.length qy] 29)
  have kY' := (Kept.refl [] wa).alloc (.cells #[.int .i64 a, .int .u32 b, .int .u32 c, .int .u32 d, .int .i64 e, .slice py l.length qy] 29)
  have Ka := Lib.hid (K8.out.trans kY)
  have Wa := Lib.hid (kY.has W8.out (by simp))
  have Aa := Lib.hid (A8.out.kept kY)
  have Ba := Lib.hid (B8.out.kept kY)
  have Fa := Lib.hid (kY.has F8.out (by simp))
  have Xa := Lib.hid (X8.out.kept kY)
  have Ya := Lib.hid ((ok_of_made ma (by have := FLn.out; omega)).kept kY')
  have Oa := Lib.hid (kY.has O8.out (by simp))
  have Pa := Lib.hid (Has.new wa 29 [.int .i64 a, .int .u32 b, .int .u32 c, .int .u32 d, .int .i64 e, .slice py l.length qy])
  have Za := Lib.hid ka.size
  clear ka ma kY kY' K8 W8 A8 B8 F8 X8 O8 IF8
  go_upto_region 17 with (fail)
  have Pa := Lib.hid (show Has (wa.alloc (.cells #[.int .i64 a, .int .u32 b, .int .u32 c, .int .u32 d, .int .i64 e, .slice py l.length qy] 29)) wa.heap.size 29 [.int .i64 a, .int .u32 b, .int .u32 c, .int .u32 d, .int .i64 e, .slice py l.length qy] from Pa.out)
  generalize wa.alloc (.cells #[.int .i64 a, .int .u32 b, .int .u32 c, .int .u32 d, .int .i64 e, .slice py l.length qy] 29) = wb at *
  generalize hQa : wa.heap.size = Qa at *
  have KC := Lib.hid (kept_call gF _ fr wb (itemBytes Aa.out) Fa.out (by have := FLn.out; omega))
  go_wp2_with fail
  refine KC.out.mono ?_
  rintro x wc ⟨rfl, kc⟩
  have Kc := Lib.hid (Ka.out.trans kc)
  have Wc := Lib.hid (kc.has Wa.out (by simp))
  have Ac := Lib.hid (Aa.out.kept kc)
  have Bc := Lib.hid (Ba.out.kept kc)
  have Fc := Lib.hid (kc.has Fa.out (by simp))
  have Xc := Lib.hid (Xa.out.kept kc)
  have Yc := Lib.hid (Ya.out.kept kc)
  have Oc := Lib.hid (kc.has Oa.out (by simp))
  have Pc := Lib.hid (kc.has Pa.out (by simp))
  clear kc KC Ka Wa Aa Ba Fa Xa Ya Oa Pa
  have c5 := Oc.out.cell 5 (v := .slice px l.length qx) rfl
  have d5 := Pc.out.cell 5 (v := .slice py l.length qy) rfl
  have kk := (Kept.refl [] wc).alloc (.cells #[.slice pa fr.length qa, .slice pb fr.length qb, .slice (some ⟨gI, 0, none⟩) l.length (l.length + 9), .slice (some ⟨gF, 0, none⟩) fr.length (fr.length + 9), .slice px l.length qx, .slice py l.length qy] 22)
  have hok : ∀ p, p ∈ [(⟨.slice pa fr.length qa, fr, w3.heap.size, w4.heap.size⟩ : LItem), ⟨.slice pb fr.length qb, fr, w4.heap.size, w5.heap.size⟩, ⟨.slice (some ⟨gI, 0, none⟩) l.length (l.length + 9), l, gI, gI + 1⟩, ⟨.slice (some ⟨gF, 0, none⟩) fr.length (fr.length + 9), fr, gF, gF + 1⟩, ⟨.slice px l.length qx, l, w7.heap.size, Q8⟩, ⟨.slice py l.length qy, l, w9.heap.size, Qa⟩] → p.ok (wc.alloc (.cells #[.slice pa fr.length qa, .slice pb fr.length qb, .slice (some ⟨gI, 0, none⟩) l.length (l.length + 9), .slice (some ⟨gF, 0, none⟩) fr.length (fr.length + 9), .slice px l.length qx, .slice py l.length qy] 22)) := by
    intro p hp
    simp only [List.mem_cons, List.not_mem_nil, or_false] at hp
    rcases hp with rfl | rfl | rfl | rfl | rfl | rfl
    · exact Ac.out.kept kk
    · exact Bc.out.kept kk
    · exact ok_of_spare (kk.has Wc.out (by simp)) (by have := H8.out; omega)
    · exact ok_of_spare (kk.has Fc.out (by simp)) (by have := FLn.out; omega)
    · exact Xc.out.kept kk
    · exact Yc.out.kept kk
  have zz := And.intro Z4.out (And.intro Z5.out (And.intro Z6.out (And.intro Z7.out (And.intro Z8.out Za.out))))
  have AP := Lib.hid (apart_items _ wc.heap.size _ (by simp) (Has.new wc 22 [.slice pa fr.length qa, .slice pb fr.length qb, .slice (some ⟨gI, 0, none⟩) l.length (l.length + 9), .slice (some ⟨gF, 0, none⟩) fr.length (fr.length + 9), .slice px l.length qx, .slice py l.length qy]) hok (by simp; omega))
  have LO := Lib.hid (fun x hx => LItem.ok.low hok (B := B) (by have := Z2.out; simp; omega) (x := x) hx)
  have Kd := Lib.hid (Kc.out.trans kk)
  clear hok kk zz Ac Bc Wc Fc Xc Yc Oc Pc Kc
  go_wp2_with fail
  refine AP.out.mono ?_
  rintro x we ⟨rfl, ke⟩
  have Ke := Lib.hid (Kd.out.fresh ke (fun x hx hl => absurd hl (by have := LO.out x hx; omega)))
  clear AP ke Kd
  go_wp2_with fail
  go_ret
  exact ⟨rfl, hBz ▸ Ke.out.toBelow (by simp)⟩
theorem UnitOwn_law (cs : Array Value) (w : World) (hz : cs.size = 6) (h : ∃ n, Fits Try.prog w n 29 (Value.agg cs).cells.toList) :
    Calls Try.prog 7 #[.agg cs] w fun e w' => e = .returned (.bool true) ∧ Below w.heap.size w w' := by
  obtain ⟨n, h⟩ := h
  obtain ⟨a, b, c, d, e, p, len, cap, eq, _, wb, wc, wd, _, m, hf⟩ := unit_cells h
  obtain ⟨cl⟩ := cs
  obtain rfl : cl = _ := eq
  obtain ⟨l, rfl, hb, hl, hw⟩ := bytes_of_fits hf
  refine UnitOwn_walk a b c d e _ l w hb hl (fun z hz => ?_) (u32_range wb) (u32_range wc) (u32_range wd)
  obtain ⟨i, hi, rfl⟩ := List.getElem_of_mem hz
  have := hw i hi
  rw [List.getD_eq_getElem?_getD, List.getElem?_eq_getElem hi, Option.getD_some] at this
  simp [Lit.wf, IntKind.min, IntKind.max, IntKind.signed, IntKind.bits] at this
  omega
end Go.Proofs.Ytlafkeijikbenac.S04
