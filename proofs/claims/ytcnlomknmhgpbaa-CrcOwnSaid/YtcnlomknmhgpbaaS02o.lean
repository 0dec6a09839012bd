/- Layer 2: the law CrcOwn. -/
import Derived.Test.YtcnlomknmhgpbaaSlcS
import Derived.Test.YtcnlomknmhgpbaaBrT
import Derived.Test.YtcnlomknmhgpbaaSlC
import Derived.Test.YtcnlomknmhgpbaaFit
import Derived.Test.YtcnlomknmhgpbaaApF
namespace Go.Proofs.Ytcnlomknmhgpbaa.S02o
open Go Go.RowKit Go.Proofs.Ytcnlomknmhgpbaa.Hp Go.Proofs.Ytcnlomknmhgpbaa.Sl Go.Proofs.Ytcnlomknmhgpbaa.SlC Go.Proofs.Ytcnlomknmhgpbaa.Br Go.Proofs.Ytcnlomknmhgpbaa.BrS Go.Proofs.Ytcnlomknmhgpbaa.BrT Go.Proofs.Ytcnlomknmhgpbaa.Fit Go.Proofs.Ytcnlomknmhgpbaa.Ap
open Go.Proofs.Ytcnlomknmhgpbaa.TabC (tcells trow trow_length)
open Go.Proofs.Ytcnlomknmhgpbaa.SlcA (srow srow_length)
set_option linter.unusedVariables false
set_option linter.unusedSimpArgs false
theorem by_of {l : List Int} (hw : ∀ i, i < l.length → (Lit.int .u8 (l.getD i 0)).wf = true) : Gf.By l := by
  intro z hz
  obtain ⟨i, hi, rfl⟩ := List.getElem_of_mem hz
  have := hw i hi
  rw [List.getD_eq_getElem?_getD, List.getElem?_eq_getElem hi, Option.getD_some] at this
  simp [Lit.wf, IntKind.min, IntKind.max, IntKind.signed, IntKind.bits] at this
  omega
theorem valid_any (a : Value) (x : List Int) (W : World) (ha : Bytes W a x) (hb : Gf.By x) (hl : x.length ≤ 1000000) :
    Calls Try.prog 17 #[a] W fun e W' => ∃ b, e = .returned (.bool b) ∧ ∃ n, W' = W.drewN n := by
  by_cases h4 : 4 ≤ x.length
  · exact (valid_call a x W ha hb hl h4).mono fun e W' h => ⟨_, h⟩
  · obtain ⟨p, q, rfl⟩ := BrS.slOf ha
    refine (PS.crc_Valid.calls 0 p q x false W (C_of_bytes ha).1 (C_of_bytes ha).2 (by unfold PS.crc_Valid.f; rw [if_neg (by omega)])).mono ?_
    rintro e W' ⟨rfl, n, hB⟩
    exact ⟨_, rfl, n, hB⟩
set_option maxRecDepth 100000 in
set_option maxHeartbeats 3200000 in
theorem CrcOwn_walk (s : Value) (l : List Int) (w : World) (hb : Bytes w s l) (hby : Gf.By l) (h8 : l.length ≤ 4000) :
    Calls Try.prog 12 #[s] w fun e w' => e = .returned (.bool true) ∧ Below w.heap.size w w' := by
  obtain ⟨sp, sc, rfl⟩ : ∃ p c, s = .slice p l.length c := by rcases hb with ⟨rfl, rfl⟩ | ⟨x, cap, rfl, _⟩ <;> exact ⟨_, _, rfl⟩
  have e2 : decide ((l.length : Int) > 4000) = false := by simp; omega
  have SB := Lib.hid hb
  have BY := Lib.hid hby
  have H8 := Lib.hid h8
  clear hb h8 hby
  go_enter Try.func12, Try.ntmps12
  go_wp2_with fail
  refine (awake_call _).mono ?_
  rintro e w0 ⟨rfl, k0⟩
  have K0 := Lib.hid k0
  clear k0
  go_wp2_with fail
  refine (spare_call _ l _ (SB.out.kept K0.out (by simp)) (by have := H8.out; omega)).mono ?_
  rintro e w1 ⟨gI, rfl, k1, hgI, hW⟩
  have K1 := Lib.hid (K0.out.trans k1)
  have W1 := Lib.hid hW
  have Z1 := Lib.hid (show w.heap.size ≤ gI ∧ gI < w1.heap.size from ⟨Nat.le_trans K0.out.size hgI, hW.lt⟩)
  clear k1 hgI hW K0
  go_wp2_with fail
  refine (TabC.new_call _).mono ?_
  rintro e w2 ⟨rfl, k2, h2⟩
  have K2 := Lib.hid (K1.out.trans k2)
  have W2 := Lib.hid (k2.has W1.out (by simp))
  have hT : gI ≠ w1.heap.size := Nat.ne_of_lt Z1.out.2
  have hT2 : w.heap.size ≤ w1.heap.size := by have := Z1.out; omega
  have hTl := h2.lt
  generalize w1.heap.size = T at h2 hT hT2 hTl ⊢
  have T2 := Lib.hid h2
  clear k2 h2 W1 K1
  go_wp2_with fail
  refine (SlcA.new_call _).mono ?_
  rintro e w3 ⟨rfl, k3, h3⟩
  have K3 := Lib.hid (K2.out.trans k3)
  have W3 := Lib.hid (k3.has W2.out (by simp))
  have T3 := Lib.hid (k3.has T2.out (by simp))
  have hS : gI ≠ w2.heap.size := Nat.ne_of_lt W2.out.lt
  have hS2 : w.heap.size ≤ w2.heap.size := by omega
  have hTS : T ≠ w2.heap.size := by omega
  have hTS1 : T < w2.heap.size := hTl
  have hSl := h3.lt
  generalize w2.heap.size = S at h3 hS hS2 hTS hTS1 hSl ⊢
  have S3 := Lib.hid h3
  have I3 := Lib.hid (own_whole W3.out (by have := H8.out; omega)).bytes
  have Z3 := Lib.hid W3.out.lt
  clear k3 h3 W2 K2 T2
  go_wp2_with fail
  refine (seal_call _ l _ I3.out BY.out (by have := H8.out; omega)).mono ?_
  rintro e w4 ⟨vx, rfl, k4, m4⟩
  have K4 := Lib.hid (K3.out.trans k4)
  have W4 := Lib.hid (k4.has W3.out (by simp))
  have T4 := Lib.hid (k4.has T3.out (by simp))
  have S4 := Lib.hid (k4.has S3.out (by simp))
  have hsl : (Pure.sealed l).length = l.length + 4 := Pure.sealed_length l
  have HSL := Lib.hid hsl
  clear hsl
  have A4 := Lib.hid (ok_of_made m4 (by have := H8.out; have := HSL.out; omega))
  have I4 := Lib.hid (own_whole W4.out (by have := H8.out; omega)).bytes
  have Z4 := Lib.hid k4.size
  clear k4 m4 W3 K3 T3 S3 I3
  go_wp2_with fail
  refine (seal_call _ l _ I4.out BY.out (by have := H8.out; omega)).mono ?_
  rintro e w5 ⟨vy, rfl, k5, m5⟩
  have K5 := Lib.hid (K4.out.trans k5)
  have W5 := Lib.hid (k5.has W4.out (by simp))
  have T5 := Lib.hid (k5.has T4.out (by simp))
  have S5 := Lib.hid (k5.has S4.out (by simp))
  have A5 := Lib.hid (A4.out.kept k5)
  have B5 := Lib.hid (ok_of_made m5 (by have := H8.out; have := HSL.out; omega))
  have I5 := Lib.hid (own_whole W5.out (by have := H8.out; omega)).bytes
  have Z5 := Lib.hid k5.size
  clear k5 m5 W4 K4 T4 S4 A4 I4
  go_wp2_with fail
  refine (TabC.sum_first T _ l _ I5.out BY.out (by have := H8.out; omega) (fun x off n c e _ => by cases e; simp; exact hT) T5.out).mono ?_
  rintro e w6 ⟨rfl, k6, h6⟩
  have K6 := Lib.hid (K5.out.fresh k6 (by simp; omega))
  have W6 := Lib.hid (k6.has W5.out (by simp; exact hT))
  have S6 := Lib.hid (k6.has S5.out (by simp; exact fun e => hTS e.symm))
  have hx6 : ∀ k, Value.ownBlock vx = some k → k ∉ [T] := fun k hk => by have := A5.out.lies k hk; simp at this ⊢; omega
  have hy6 : ∀ k, Value.ownBlock vy = some k → k ∉ [T] := fun k hk => by have := Z4.out; have := B5.out.lies k hk; simp at this ⊢; omega
  have A6 := Lib.hid (show LItem.ok w6 ⟨vx, Pure.sealed l, w3.heap.size, w4.heap.size⟩ from ⟨A5.out.row.kept k6 hx6, A5.out.short, A5.out.lies⟩)
  have B6 := Lib.hid (show LItem.ok w6 ⟨vy, Pure.sealed l, w4.heap.size, w5.heap.size⟩ from ⟨B5.out.row.kept k6 hy6, B5.out.short, B5.out.lies⟩)
  have I6 := Lib.hid (own_whole W6.out (by have := H8.out; omega)).bytes
  clear k6 h6 hx6 hy6 W5 K5 T5 S5 A5 B5 I5
  go_wp2_with fail
  refine (SlcA.sum_first S _ l _ I6.out BY.out (by have := H8.out; omega) (fun x off n c e _ => by cases e; simp; exact hS) S6.out).mono ?_
  rintro e w7 ⟨rfl, k7, h7⟩
  have K7 := Lib.hid (K6.out.fresh k7 (by simp; omega))
  have W7 := Lib.hid (k7.has W6.out (by simp; exact hS))
  have hx7 : ∀ k, Value.ownBlock vx = some k → k ∉ [S] := fun k hk => by have := A6.out.lies k hk; simp at this ⊢; omega
  have hy7 : ∀ k, Value.ownBlock vy = some k → k ∉ [S] := fun k hk => by have := Z4.out; have := B6.out.lies k hk; simp at this ⊢; omega
  have A7 := Lib.hid (show LItem.ok w7 ⟨vx, Pure.sealed l, w3.heap.size, w4.heap.size⟩ from ⟨A6.out.row.kept k7 hx7, A6.out.short, A6.out.lies⟩)
  have B7 := Lib.hid (show LItem.ok w7 ⟨vy, Pure.sealed l, w4.heap.size, w5.heap.size⟩ from ⟨B6.out.row.kept k7 hy7, B6.out.short, B6.out.lies⟩)
  have I7 := Lib.hid (own_whole W7.out (by have := H8.out; omega)).bytes
  clear k7 h7 hx7 hy7 W6 K6 S6 A6 B6 I6
  go_wp2_with fail
  refine (valid_any _ l _ I7.out BY.out (by have := H8.out; omega)).mono ?_
  rintro e w8 ⟨b8, rfl, n8, hw8⟩
  have k8 : Kept [] w7 w8 := hw8 ▸ (Kept.refl [] w7).drewN n8
  clear hw8
  have K8 := Lib.hid (K7.out.trans k8)
  have W8 := Lib.hid (k8.has W7.out (by simp))
  have A8 := Lib.hid (A7.out.kept k8)
  have B8 := Lib.hid (B7.out.kept k8)
  have I8 := Lib.hid (own_whole W8.out (by have := H8.out; omega)).bytes
  clear k8 W7 K7 A7 B7 I7
  go_wp2_with fail
  refine (bits_call _ l _ I8.out BY.out (by have := H8.out; omega)).mono ?_
  rintro e w9 ⟨rfl, n9, hw9⟩
  have k9 : Kept [] w8 w9 := hw9 ▸ (Kept.refl [] w8).drewN n9
  clear hw9
  have K9 := Lib.hid (K8.out.trans k9)
  have W9 := Lib.hid (k9.has W8.out (by simp))
  have A9 := Lib.hid (A8.out.kept k9)
  have B9 := Lib.hid (B8.out.kept k9)
  clear k9 W8 K8 A8 B8 I8
  go_wp2_with fail
  refine (rsum_call _ l _ (SB.out.kept K9.out (by simp)) BY.out (by have := H8.out; omega)).mono ?_
  rintro e wa ⟨rfl, ka⟩
  have Ka := Lib.hid (K9.out.trans ka)
  have Wa := Lib.hid (ka.has W9.out (by simp))
  have Aa := Lib.hid (A9.out.kept ka)
  have Ba := Lib.hid (B9.out.kept ka)
  have KC := Lib.hid (kept_call gI _ l wa (SB.out.kept Ka.out (by simp)) Wa.out (by have := H8.out; omega))
  have ec : (((Gf.crc l : Nat) : Int) == ((Gf.crc l : Nat) : Int)) = true := by simp
  clear ka W9 K9 A9 B9
  go_wp2_with fail
  refine KC.out.mono ?_
  rintro e wb ⟨rfl, kb⟩
  have Kb := Lib.hid (Ka.out.trans kb)
  have Wb := Lib.hid (kb.has Wa.out (by simp))
  have Ab := Lib.hid (Aa.out.kept kb)
  have Bb := Lib.hid (Ba.out.kept kb)
  obtain ⟨px, qx, ex⟩ := (Row.shape2 Ab.out.row)
  obtain ⟨py, qy, ey⟩ := (Row.shape2 Bb.out.row)
  simp only at ex ey
  obtain ⟨rfl, _⟩ := ex
  obtain ⟨rfl, _⟩ := ey
  clear kb KC Wa Ka Aa Ba ec
  have kk := (Kept.refl [] wb).alloc (.cells #[.slice px (Pure.sealed l).length qx, .slice py (Pure.sealed l).length qy, .slice (some ⟨gI, 0, none⟩) l.length (l.length + 9)] 22)
  have hok : ∀ p, p ∈ [(⟨.slice px (Pure.sealed l).length qx, Pure.sealed l, w3.heap.size, w4.heap.size⟩ : LItem), ⟨.slice py (Pure.sealed l).length qy, Pure.sealed l, w4.heap.size, w5.heap.size⟩, ⟨.slice (some ⟨gI, 0, none⟩) l.length (l.length + 9), l, gI, gI + 1⟩] → p.ok (wb.alloc (.cells #[.slice px (Pure.sealed l).length qx, .slice py (Pure.sealed l).length qy, .slice (some ⟨gI, 0, none⟩) l.length (l.length + 9)] 22)) := by
    intro p hp
    simp only [List.mem_cons, List.not_mem_nil, or_false] at hp
    rcases hp with rfl | rfl | rfl
    · exact Ab.out.kept kk
    · exact Bb.out.kept kk
    · exact ok_of_spare (kk.has Wb.out (by simp)) (by have := H8.out; omega)
  have zz : gI < w3.heap.size ∧ w3.heap.size ≤ w4.heap.size ∧ w4.heap.size ≤ w5.heap.size := ⟨Z3.out, Z4.out, Z5.out⟩
  have AP := Lib.hid (apart_items _ wb.heap.size _ (by simp) (Has.new wb 22 [.slice px (Pure.sealed l).length qx, .slice py (Pure.sealed l).length qy, .slice (some ⟨gI, 0, none⟩) l.length (l.length + 9)]) hok (by simp; omega))
  have LO := Lib.hid (fun x hx => LItem.ok.low hok (B := w.heap.size) (by have := Z1.out; have := Z4.out; simp; omega) (x := x) hx)
  have Kc := Lib.hid (Kb.out.trans kk)
  clear hok kk zz Ab Bb Wb Kb
  go_wp2_with fail
  refine AP.out.mono ?_
  rintro e wd ⟨rfl, kd⟩
  have Kd := Lib.hid (Kc.out.fresh kd (fun x hx hl => absurd hl (by have := LO.out x hx; omega)))
  clear AP kd Kc
  go_wp2_with fail
  go_ret
  exact ⟨rfl, Kd.out.toBelow (by simp)⟩
set_option maxRecDepth 100000 in
theorem CrcOwn_skip (s : Value) (a : List Int) (w : World) (ha : Bytes w s a) (h : 4000 < a.length) :
    Calls Try.prog 12 #[s] w fun e w' => e = .returned (.bool true) ∧ Below w.heap.size w w' := by
  obtain ⟨sp, sc, rfl, _⟩ := sl_shape ha
  have e1 : decide ((a.length : Int) > 4000) = true := by simp; omega
  clear ha h
  go_enter Try.func12, Try.ntmps12
  go_wp2_with fail
  refine (awake_call _).mono ?_
  rintro e w0 ⟨rfl, k0⟩
  go_wp2_with fail
  go_ret
  exact ⟨rfl, k0.toBelow (by simp)⟩
theorem CrcOwn_law (x : Option Addr) (len cap : Nat) (w : World) (hf : ∃ n, Fits Try.prog w n 22 [.slice x len cap]) :
    Calls Try.prog 12 #[.slice x len cap] w fun e w' => e = .returned (.bool true) ∧ Below w.heap.size w w' := by
  obtain ⟨n, hf⟩ := hf
  obtain ⟨a, rfl, ha, _, wa⟩ := bytes_of_fits hf
  by_cases h : a.length ≤ 4000
  · exact CrcOwn_walk _ a w ha (by_of wa) h
  · exact CrcOwn_skip _ a w ha (by omega)
end Go.Proofs.Ytcnlomknmhgpbaa.S02o
