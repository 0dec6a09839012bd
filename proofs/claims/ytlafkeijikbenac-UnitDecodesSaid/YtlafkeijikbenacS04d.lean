/- Layer 4: the law UnitDecodes. (Written by wip/gen_04d.py.) -/
import Derived.Test.YtlafkeijikbenacBrD
import Derived.Test.YtlafkeijikbenacFit
import Derived.Deep.QuietTactic
import Derived.Deep.Cut
namespace Go.Proofs.Ytlafkeijikbenac.S04
open Go Go.RowKit Go.Proofs.Ytlafkeijikbenac.Hp Go.Proofs.Ytlafkeijikbenac.Sl Go.Proofs.Ytlafkeijikbenac.Ap Go.Proofs.Ytlafkeijikbenac.Br Go.Proofs.Ytlafkeijikbenac.BrD Go.Proofs.Ytlafkeijikbenac.Fit
open Go.Proofs.Ytlafkeijikbenac.Pure (sealed sealed_by sealed_length)
set_option linter.unusedVariables false
set_option linter.unusedSimpArgs false
theorem Row.bytes' {w : World} {v : Value} {l : List Int} (h : Row w v l) : Bytes w v l := by
  rcases h with h | ⟨g, h⟩
  · exact .inl h
  · exact h.bytes
def UdRel (W : World) (i : Value) (w : World) : Prop := ∃ k : Nat, k ≤ 2 ∧ i = .int .i64 (k : Nat) ∧ Kept [] W w
set_option maxRecDepth 100000 in
set_option maxHeartbeats 6400000 in
theorem UnitDecodes_walk (s : Value) (l : List Int) (w : World) (hb : Bytes w s l) (hby : Gf.By l) :
    Calls Try.prog 3 #[s] w fun e w' => e = .returned (.bool true) ∧ Below w.heap.size w w' := by
  obtain ⟨sp, sc, rfl⟩ : ∃ p c, s = .slice p l.length c := by rcases hb with ⟨rfl, rfl⟩ | ⟨x, cap, rfl, _⟩ <;> exact ⟨_, _, rfl⟩
  have SB := Lib.hid hb
  have BY := Lib.hid hby
  clear hb hby
  go_enter Try.func3, Try.ntmps3
  go_wp2_with fail
  refine (awake_call _).mono ?_
  rintro x w1 ⟨rfl, k1⟩
  have K1 := Lib.hid k1
  clear k1
  by_cases hlen : 1000 < l.length
  · have e2 : decide ((l.length : Int) > 1000) = true := by simp; omega
    clear hlen
    go_wp2_with fail
    go_ret
    exact ⟨rfl, K1.out.toBelow (by simp)⟩
  have e2 : decide ((l.length : Int) > 1000) = false := by simp; omega
  have LL := Lib.hid (show l.length ≤ 1000 by omega)
  clear hlen
  go_wp2_with fail
  refine (rseal_call _ l _ (SB.out.kept K1.out (by simp)) BY.out (by have := LL.out; omega)).mono ?_
  rintro x w2 ⟨v2, rfl, k2, m2⟩
  have LS := Lib.hid (sealed_length l)
  have BS := Lib.hid (sealed_by BY.out)
  generalize sealed l = sl at *
  obtain ⟨p2, q2, rfl⟩ := m2.shape
  have kA := (Kept.refl [] w2).alloc (.cells #[.slice sp l.length sc, .slice p2 sl.length q2] 22)
  have K3 := Lib.hid ((K1.out.trans k2).trans kA)
  have M3 := Lib.hid (m2.bytes.kept kA (by simp))
  have S3 := Lib.hid (SB.out.kept K3.out (by simp))
  have LA := Lib.hid (Has.new w2 22 [.slice sp l.length sc, .slice p2 sl.length q2])
  clear k2 m2 kA K1
  go_upto_region 6 with (fail)
  have LA := Lib.hid (show Has (w2.alloc (.cells #[.slice sp l.length sc, .slice p2 sl.length q2] 22)) w2.heap.size 22 [.slice sp l.length sc, .slice p2 sl.length q2] from LA.out)
  generalize w2.alloc (.cells #[.slice sp l.length sc, .slice p2 sl.length q2] 22) = w3 at *
  generalize w2.heap.size = A at *
  go_loopw [19] (UdRel w3) (fun i _ => 2 - (intOf i).toNat)
  case atStart => exact ⟨0, by omega, rfl, Kept.refl _ _⟩
  case round =>
    obtain ⟨k, hk, rfl, hK⟩ := hrel
    rename_i wr
    have K := Lib.hid hK
    clear hK
    rcases (show k = 0 ∨ k = 1 ∨ k = 2 by omega) with rfl | rfl | rfl
    · have DD := Lib.hid (decode_all (L := l) BY.out)
      obtain ⟨a, b, c, d, e, data, er, hD⟩ := DD.out
      have D := Lib.hid hD
      clear hD DD
      have q0 : wr.cell? ⟨A, 0, none⟩ = some (.slice sp l.length sc) := (K.out.has LA.out (by simp)).cell 0 rfl
      have q0' : wr.cell? ⟨A, 0 + 0, none⟩ = some (.slice sp l.length sc) := (K.out.has LA.out (by simp)).cell 0 rfl
      have B0 := Lib.hid (S3.out.kept K.out (by simp))
      have ne2 : (er != er) = false := by simp
      go_wp2_with (at_builtin; refine wpList_app rfl _ _ rfl wr (.slice sp l.length sc) l _ rfl rfl rfl B0.out (by have := LL.out; have := LS.out; omega) ?_)
      intro y w4 k4 gy hgy hoy
      have K4 := Lib.hid (K.out.trans k4)
      have Y4 := Lib.hid (Row.bytes' (Or.inr ⟨gy, hoy⟩))
      have B4 := Lib.hid (B0.out.kept k4 (by simp))
      clear k4 hoy hgy q0 q0' B0
      go_wp2_with fail
      refine (D.out.dec _ _ Y4.out).mono ?_
      rintro x w5 ⟨v5, rfl, k5, m5⟩
      obtain ⟨p5, q5, rfl⟩ := m5.shape
      have kU := (Kept.refl [] w5).alloc (.cells #[.int .i64 a, .int .u32 b, .int .u32 c, .int .u32 d, .int .i64 e, .slice p5 data.length q5] 29)
      have K6 := Lib.hid ((K4.out.trans k5).trans kU)
      have B6 := Lib.hid ((B4.out.kept k5 (by simp)).kept kU (by simp))
      have M6 := Lib.hid (m5.bytes.kept kU (by simp))
      have U6 := Lib.hid (Has.new w5 29 [.int .i64 a, .int .u32 b, .int .u32 c, .int .u32 d, .int .i64 e, .slice p5 data.length q5])
      clear k5 m5 kU K4 Y4 B4
      go_upto_region 9 with (fail)
      have U6 := Lib.hid (show Has (w5.alloc (.cells #[.int .i64 a, .int .u32 b, .int .u32 c, .int .u32 d, .int .i64 e, .slice p5 data.length q5] 29)) w5.heap.size 29 [.int .i64 a, .int .u32 b, .int .u32 c, .int .u32 d, .int .i64 e, .slice p5 data.length q5] from U6.out)
      generalize w5.alloc (.cells #[.int .i64 a, .int .u32 b, .int .u32 c, .int .u32 d, .int .i64 e, .slice p5 data.length q5] 29) = w6 at *
      generalize w5.heap.size = U at *
      go_wp2_with fail
      refine (D.out.rdec _ _ B6.out).mono ?_
      rintro x w7 ⟨v7, rfl, k7, m7⟩
      obtain ⟨p7, q7, rfl⟩ := m7.shape
      have kV := (Kept.refl [] w7).alloc (.cells #[.int .i64 a, .int .u32 b, .int .u32 c, .int .u32 d, .int .i64 e, .slice p7 data.length q7] 29)
      have K8 := Lib.hid ((K6.out.trans k7).trans kV)
      have M8 := Lib.hid ((M6.out.kept k7 (by simp)).kept kV (by simp))
      have N8 := Lib.hid (m7.bytes.kept kV (by simp))
      have U8 := Lib.hid (kV.has (k7.has U6.out (by simp)) (by simp))
      have V8 := Lib.hid (Has.new w7 29 [.int .i64 a, .int .u32 b, .int .u32 c, .int .u32 d, .int .i64 e, .slice p7 data.length q7])
      clear k7 m7 kV K6 B6 M6 U6
      go_upto_region 10 with (fail)
      have V8 := Lib.hid (show Has (w7.alloc (.cells #[.int .i64 a, .int .u32 b, .int .u32 c, .int .u32 d, .int .i64 e, .slice p7 data.length q7] 29)) w7.heap.size 29 [.int .i64 a, .int .u32 b, .int .u32 c, .int .u32 d, .int .i64 e, .slice p7 data.length q7] from V8.out)
      generalize w7.alloc (.cells #[.int .i64 a, .int .u32 b, .int .u32 c, .int .u32 d, .int .i64 e, .slice p7 data.length q7] 29) = w8 at *
      generalize w7.heap.size = V at *
      have u0 := U8.out.cell 0 (v := .int .i64 a) rfl
      have u1 := U8.out.cell 1 (v := .int .u32 b) rfl
      have u2 := U8.out.cell 2 (v := .int .u32 c) rfl
      have u3 := U8.out.cell 3 (v := .int .u32 d) rfl
      have u4 := U8.out.cell 4 (v := .int .i64 e) rfl
      have u5 := U8.out.cell 5 (v := .slice p5 data.length q5) rfl
      have v0 := V8.out.cell 0 (v := .int .i64 a) rfl
      have v1 := V8.out.cell 1 (v := .int .u32 b) rfl
      have v2 := V8.out.cell 2 (v := .int .u32 c) rfl
      have v3 := V8.out.cell 3 (v := .int .u32 d) rfl
      have v4 := V8.out.cell 4 (v := .int .i64 e) rfl
      have v5 := V8.out.cell 5 (v := .slice p7 data.length q7) rfl
      go_wp2_with fail
      refine (D.out.same _ _ _ M8.out N8.out).mono ?_
      rintro x w9 ⟨rfl, k9⟩
      have K9 := Lib.hid (K8.out.trans k9)
      clear u0 u1 u2 u3 u4 u5 v0 v1 v2 v3 v4 v5 k9 U8 V8 M8 N8 K8
      go_wp2_with fail
      go_roundw
      case rel => exact ⟨1, by omega, by go_num, K9.out⟩
      case measure => simp [intOf]
    · have DD := Lib.hid (decode_all (L := sl) BS.out)
      obtain ⟨a, b, c, d, e, data, er, hD⟩ := DD.out
      have D := Lib.hid hD
      clear hD DD
      have q0 : wr.cell? ⟨A, 1, none⟩ = some (.slice p2 sl.length q2) := (K.out.has LA.out (by simp)).cell 1 rfl
      have q0' : wr.cell? ⟨A, 0 + 1, none⟩ = some (.slice p2 sl.length q2) := (K.out.has LA.out (by simp)).cell 1 rfl
      have B0 := Lib.hid (M3.out.kept K.out (by simp))
      have ne2 : (er != er) = false := by simp
      go_wp2_with (at_builtin; refine wpList_app rfl _ _ rfl wr (.slice p2 sl.length q2) sl _ rfl rfl rfl B0.out (by have := LL.out; have := LS.out; omega) ?_)
      intro y w4 k4 gy hgy hoy
      have K4 := Lib.hid (K.out.trans k4)
      have Y4 := Lib.hid (Row.bytes' (Or.inr ⟨gy, hoy⟩))
      have B4 := Lib.hid (B0.out.kept k4 (by simp))
      clear k4 hoy hgy q0 q0' B0
      go_wp2_with fail
      refine (D.out.dec _ _ Y4.out).mono ?_
      rintro x w5 ⟨v5, rfl, k5, m5⟩
      obtain ⟨p5, q5, rfl⟩ := m5.shape
      have kU := (Kept.refl [] w5).alloc (.cells #[.int .i64 a, .int .u32 b, .int .u32 c, .int .u32 d, .int .i64 e, .slice p5 data.length q5] 29)
      have K6 := Lib.hid ((K4.out.trans k5).trans kU)
      have B6 := Lib.hid ((B4.out.kept k5 (by simp)).kept kU (by simp))
      have M6 := Lib.hid (m5.bytes.kept kU (by simp))
      have U6 := Lib.hid (Has.new w5 29 [.int .i64 a, .int .u32 b, .int .u32 c, .int .u32 d, .int .i64 e, .slice p5 data.length q5])
      clear k5 m5 kU K4 Y4 B4
      go_upto_region 9 with (fail)
      have U6 := Lib.hid (show Has (w5.alloc (.cells #[.int .i64 a, .int .u32 b, .int .u32 c, .int .u32 d, .int .i64 e, .slice p5 data.length q5] 29)) w5.heap.size 29 [.int .i64 a, .int .u32 b, .int .u32 c, .int .u32 d, .int .i64 e, .slice p5 data.length q5] from U6.out)
      generalize w5.alloc (.cells #[.int .i64 a, .int .u32 b, .int .u32 c, .int .u32 d, .int .i64 e, .slice p5 data.length q5] 29) = w6 at *
      generalize w5.heap.size = U at *
      go_wp2_with fail
      refine (D.out.rdec _ _ B6.out).mono ?_
      rintro x w7 ⟨v7, rfl, k7, m7⟩
      obtain ⟨p7, q7, rfl⟩ := m7.shape
      have kV := (Kept.refl [] w7).alloc (.cells #[.int .i64 a, .int .u32 b, .int .u32 c, .int .u32 d, .int .i64 e, .slice p7 data.length q7] 29)
      have K8 := Lib.hid ((K6.out.trans k7).trans kV)
      have M8 := Lib.hid ((M6.out.kept k7 (by simp)).kept kV (by simp))
      have N8 := Lib.hid (m7.bytes.kept kV (by simp))
      have U8 := Lib.hid (kV.has (k7.has U6.out (by simp)) (by simp))
      have V8 := Lib.hid (Has.new w7 29 [.int .i64 a, .int .u32 b, .int .u32 c, .int .u32 d, .int .i64 e, .slice p7 data.length q7])
      clear k7 m7 kV K6 B6 M6 U6
      go_upto_region 10 with (fail)
      have V8 := Lib.hid (show Has (w7.alloc (.cells #[.int .i64 a, .int .u32 b, .int .u32 c, .int .u32 d, .int .i64 e, .slice p7 data.length q7] 29)) w7.heap.size 29 [.int .i64 a, .int .u32 b, .int .u32 c, .int .u32 d, .int .i64 e, .slice p7 data.length q7] from V8.out)
      generalize w7.alloc (.cells #[.int .i64 a, .int .u32 b, .int .u32 c, .int .u32 d, .int .i64 e, .slice p7 data.length q7] 29) = w8 at *
      generalize w7.heap.size = V at *
      have u0 := U8.out.cell 0 (v := .int .i64 a) rfl
      have u1 := U8.out.cell 1 (v := .int .u32 b) rfl
      have u2 := U8.out.cell 2 (v := .int .u32 c) rfl
      have u3 := U8.out.cell 3 (v := .int .u32 d) rfl
      have u4 := U8.out.cell 4 (v := .int .i64 e) rfl
      have u5 := U8.out.cell 5 (v := .slice p5 data.length q5) rfl
      have v0 := V8.out.cell 0 (v := .int .i64 a) rfl
      have v1 := V8.out.cell 1 (v := .int .u32 b) rfl
      have v2 := V8.out.cell 2 (v := .int .u32 c) rfl
      have v3 := V8.out.cell 3 (v := .int .u32 d) rfl
      have v4 := V8.out.cell 4 (v := .int .i64 e) rfl
      have v5 := V8.out.cell 5 (v := .slice p7 data.length q7) rfl
      go_wp2_with fail
      refine (D.out.same _ _ _ M8.out N8.out).mono ?_
      rintro x w9 ⟨rfl, k9⟩
      have K9 := Lib.hid (K8.out.trans k9)
      clear u0 u1 u2 u3 u4 u5 v0 v1 v2 v3 v4 v5 k9 U8 V8 M8 N8 K8
      go_wp2_with fail
      go_roundw
      case rel => exact ⟨2, by omega, by go_num, K9.out⟩
      case measure => simp [intOf]
    · go_wp2_with fail
      go_ret
      exact ⟨rfl, (K3.out.trans K.out).toBelow (by simp)⟩
theorem UnitDecodes_law (x : Option Addr) (len cap : Nat) (w : World) (hg : ∃ n, Fits Try.prog w n 22 [.slice x len cap]) :
    Calls Try.prog 3 #[.slice x len cap] w fun e w' => e = .returned (.bool true) ∧ Below w.heap.size w w' := by
  obtain ⟨n, hg⟩ := hg
  obtain ⟨l, rfl, hb, hl, hw⟩ := bytes_of_fits hg
  refine UnitDecodes_walk _ l w hb (fun z hz => ?_)
  obtain ⟨i, hi, rfl⟩ := List.getElem_of_mem hz
  have := hw i hi
  rw [List.getD_eq_getElem?_getD, List.getElem?_eq_getElem hi, Option.getD_some] at this
  simp [Lit.wf, IntKind.min, IntKind.max, IntKind.signed, IntKind.bits] at this
  omega
end Go.Proofs.Ytlafkeijikbenac.S04
