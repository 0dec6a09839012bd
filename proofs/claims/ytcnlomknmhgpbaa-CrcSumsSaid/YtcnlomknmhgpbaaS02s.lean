/- Layer 2: the law CrcSums. -/
import Derived.Test.YtcnlomknmhgpbaaBrS
import Derived.Test.YtcnlomknmhgpbaaSlC
import Derived.Test.YtcnlomknmhgpbaaFit
import Derived.Deep.QuietTactic
import Derived.StillTail
import Derived.StillTactics
import Derived.StillTailTactics
import Derived.Deep.Cut
namespace Go.Proofs.Ytcnlomknmhgpbaa.S02
open Go Go.RowKit Go.Proofs.Ytcnlomknmhgpbaa.Hp Go.Proofs.Ytcnlomknmhgpbaa.Sl Go.Proofs.Ytcnlomknmhgpbaa.Ap Go.Proofs.Ytcnlomknmhgpbaa.Br Go.Proofs.Ytcnlomknmhgpbaa.BrS Go.Proofs.Ytcnlomknmhgpbaa.Fit Go.Proofs.Ytcnlomknmhgpbaa.SlC
open Go.Proofs.Ytcnlomknmhgpbaa.Pure (mask mask_len mask_by mask_zero mask_all xl xl_length xl_by xl_mask_step xl_mask_get xl_mask_zero xb sealed sealed_by sealed_length crc_pattern crc_xl by_take)
set_option linter.unusedVariables false
set_option linter.unusedSimpArgs false
/-- The row g is s, its first i bytes turned by b's. -/
def TuRel (W : World) (g : Nat) (v : Value) (s b : List Int) (i : Value) (w : World) : Prop :=
  ∃ (k : Nat) (ws : World), ws = w ∧ k ≤ s.length ∧ k ≤ b.length ∧ i = .int .i64 (k : Nat) ∧ Kept [g] W w ∧ Own w g v (xl s (mask s.length b k))
set_option maxRecDepth 100000 in
set_option maxHeartbeats 3200000 in
theorem CrcSums_skip (s t : Value) (a b : List Int) (w : World) (ha : Bytes w s a) (hb : Bytes w t b) (h : 4000 < a.length ∨ 4000 < b.length) :
    Calls Try.prog 8 #[s, t] w fun e w' => e = .returned (.bool true) ∧ Below w.heap.size w w' := by
  obtain ⟨sp, sc, rfl, _⟩ := sl_shape ha
  obtain ⟨tp, tc, rfl, _⟩ := sl_shape hb
  clear ha hb
  by_cases h1 : 4000 < a.length
  · have e1 : decide ((a.length : Int) > 4000) = true := by simp; omega
    clear h h1
    go_enter Try.func8, Try.ntmps8
    go_wp2_with fail
    refine (awake_call _).mono ?_
    rintro e w0 ⟨rfl, k0⟩
    go_wp2_with fail
    go_ret
    exact ⟨rfl, k0.toBelow (by simp)⟩
  · have e1 : decide ((a.length : Int) > 4000) = false := by simp; omega
    have e2 : decide ((b.length : Int) > 4000) = true := by simp; omega
    clear h h1
    go_enter Try.func8, Try.ntmps8
    go_wp2_with fail
    refine (awake_call _).mono ?_
    rintro e w0 ⟨rfl, k0⟩
    go_wp2_with fail
    go_ret
    exact ⟨rfl, k0.toBelow (by simp)⟩
set_option maxRecDepth 100000 in
set_option maxHeartbeats 6400000 in
theorem CrcSums_walk (s t : Value) (a b : List Int) (w : World) (ha : Bytes w s a) (hb : Bytes w t b) (ya : Gf.By a) (yb : Gf.By b) (la : a.length ≤ 4000) (lb : b.length ≤ 4000) :
    Calls Try.prog 8 #[s, t] w fun e w' => e = .returned (.bool true) ∧ Below w.heap.size w w' := by
  obtain ⟨sp, sc, rfl, hsc⟩ := sl_shape ha
  obtain ⟨tp, tc, rfl, htc⟩ := sl_shape hb
  have e1 : decide ((a.length : Int) > 4000) = false := by simp; omega
  have e2 : decide ((b.length : Int) > 4000) = false := by simp; omega
  have SA := Lib.hid ha
  have SB := Lib.hid hb
  have YA := Lib.hid ya
  have YB := Lib.hid yb
  have LA := Lib.hid la
  have LB := Lib.hid lb
  clear ha hb ya yb la lb
  obtain ⟨n, hn⟩ : ∃ n : Nat, n = min a.length b.length := ⟨_, rfl⟩
  have hna : n ≤ a.length := by omega
  have hnb : n ≤ b.length := by omega
  have hnc : (n : Int) ≤ (sc : Int) := by omega
  have hnd : (n : Int) ≤ (tc : Int) := by omega
  have hn0 : (0 : Int) ≤ (n : Int) := by omega
  go_enter Try.func8, Try.ntmps8
  go_wp2_with fail
  refine (awake_call _).mono ?_
  rintro e w0 ⟨rfl, k0⟩
  have K0 := Lib.hid k0
  have A0 := Lib.hid (SlC.Bytes.head (SA.out.kept k0 (by simp)) n hna)
  have TL := Lib.hid (show (a.take n).length = n by rw [List.length_take]; omega)
  clear k0
  -- TAIL
  by_cases hlt : (b.length : Int) < (a.length : Int)
  · obtain rfl : n = b.length := by omega
    clear hn
    obtain ⟨A, hA⟩ : ∃ A, a.take b.length = A := ⟨_, rfl⟩
    rw [hA] at A0 TL
    have BT := Lib.hid (show Gf.By A from hA ▸ by_take YA.out b.length)
    have HA := Lib.hid hA
    clear hA
    go_wp2_with (at_builtin; refine wpList_app rfl _ _ rfl w0 (.slice sp b.length sc) A _ rfl rfl rfl A0.out (by rw [TL.out]; have := LA.out; omega) ?_)
    intro y w1 k1 gx hgx hox
    have hy : ∃ cap, y = .slice (some ⟨gx, 0, none⟩) b.length cap ∧ b.length ≤ cap := by
      obtain ⟨cap, cur, e, _, h2, _⟩ := hox
      rw [TL.out] at e h2
      exact ⟨cap, e, h2⟩
    obtain ⟨cap, rfl, hcap⟩ := hy
    have K1 := Lib.hid (K0.out.trans k1)
    have OX := Lib.hid hox
    have GX := Lib.hid (show w.heap.size ≤ gx from Nat.le_trans K0.out.size hgx)
    clear k1 hox hgx
    go_wp2_with fail
    go_loopw [7] (TuRel w1 gx (.slice (some ⟨gx, 0, none⟩) b.length cap) A b) (fun i _ => b.length - (intOf i).toNat)
    case atStart => exact ⟨0, w1, rfl, by omega, by omega, rfl, Kept.refl _ _, by rw [xl_mask_zero BT.out rfl]; exact OX.out⟩
    case round =>
      obtain ⟨k, ws, rfl, hk, hkb, rfl, hK, hO⟩ := hrel
      rw [TL.out] at hk
      have KW := Lib.hid (K1.out.fresh hK (by intro i hi hl; simp at hi; have := GX.out; omega))
      have HO := Lib.hid hO
      have HK := Lib.hid hK
      clear hK hO
      rcases Nat.lt_or_ge k b.length with hkn | hkn
      · obtain ⟨bb, boff, htp, qb⟩ := SlC.Bytes.at_ (SB.out.kept KW.out (by simp)) k (by omega)
        subst htp
        have hlx := xl_length A (mask A.length b k) (mask_len hkb (by rw [TL.out]; exact hk)).symm
        have q0 := SlC.Own.cellAt HO.out k (by rw [hlx, TL.out]; exact hkn)
        rw [xl_mask_get BT.out rfl (by rw [TL.out]; exact hkn) hkb] at q0
        have z0 := SlC.Own.free HO.out k
        have b4 := LB.out
        obtain ⟨x, hx⟩ : ∃ x, A.getD k 0 = x := ⟨_, rfl⟩
        obtain ⟨z, hz⟩ : ∃ z, b.getD k 0 = z := ⟨_, rfl⟩
        rw [hx] at q0
        rw [hz] at qb
        have HX := Lib.hid hx
        have HZ := Lib.hid hz
        clear hx hz
        have g1 : k < cap := by omega
        have g2 : k < tc := by omega
        have g3 : k < b.length := by omega
        clear hlx
        go_wp2_with fail
        refine wp_region_still_tail 10 (by kernel_rfl) (by kernel_rfl) ?_
        simp only [List.take_succ_cons, List.take_zero, List.drop_succ_cons, List.drop_zero]
        repeat (first | still_step)
        refine wpStill_nil ?_
        change wpList _ _ _ _ _ ws.drew
        have q0' : ws.drew.cell? ⟨gx, k, none⟩ = some (.int .u8 x) := q0
        have z0' : ws.drew.frozen? ⟨gx, k, none⟩ = false := z0
        go_wp2_with fail
        go_roundw
        case rel =>
          refine ⟨k + 1, _, rfl, by rw [TL.out]; omega, by omega, by go_num, (HK.out.set ⟨gx, k, none⟩ _ (by simp)).drew, ?_⟩
          have := (SlC.Own.set HO.out k (xb x z) (by rw [xl_length _ _ (mask_len hkb (by rw [TL.out]; exact hk)).symm, TL.out]; exact hkn)).kept ((Kept.refl [] _).drew) (by simp)
          have e := xl_mask_step (s := A) (b := b) (i := k) rfl (by rw [TL.out]; exact hkn) g3
          rw [HX.out, HZ.out] at e
          rw [e] at this
          exact this
        case measure => simp [intOf]; omega
      · obtain rfl : k = b.length := by omega
        have hfin : mask A.length b b.length = b.take b.length := by rw [TL.out]; exact mask_all
        have hO2 := HO.out
        rw [hfin] at hO2
        have hle : A.length = (b.take b.length).length := by rw [TL.out, List.length_take]; omega
        have BTB := Lib.hid (by_take YB.out b.length)
        have XL := Lib.hid (show (xl A (b.take b.length)).length = b.length by rw [xl_length _ _ hle]; exact TL.out)
        have BX0 := (fun q => bits_call _ _ (ws.drewN q) (hO2.bytes.kept ((Kept.refl [] ws).drewN q) (by simp)) (xl_by BT.out BTB.out) (by rw [XL.out]; have := LA.out; omega))
        have BA0 := (fun q => bits_call (.slice sp b.length sc) A (ws.drewN q) (HA.out ▸ SlC.Bytes.head (SA.out.kept (KW.out.drewN q) (by simp)) b.length hna) BT.out (by rw [TL.out]; have := LA.out; omega))
        have BB0 := (fun q => bits_call (.slice tp b.length tc) (b.take b.length) (ws.drewN q) (SlC.Bytes.head (SB.out.kept (KW.out.drewN q) (by simp)) b.length hnb) BTB.out (by rw [← hle, TL.out]; have := LA.out; omega))
        have cx := crc_xl BT.out BTB.out hle
        have ex : (((Gf.crc (xl A (b.take b.length)) : Nat) : Int) != bits .xor .u32 ((Gf.crc A : Nat) : Int) ((Gf.crc (b.take b.length) : Nat) : Int)) = false := by
          rw [cx, Go.Proofs.Ytcnlomknmhgpbaa.Bt.xor32 (Gf.crc_lt _) (Gf.crc_lt _)]; simp
        generalize Gf.crc (xl A (b.take b.length)) = cX at BX0 ex
        generalize Gf.crc A = cA at BA0 ex
        generalize Gf.crc (b.take b.length) = cB at BB0 ex
        have BX := Lib.hid BX0
        have BA := Lib.hid BA0
        have BB := Lib.hid BB0
        clear cx hfin hO2 HO HK OX BX0 BA0 BB0
        have KW2 := Lib.hid (fun q => KW.out.drewN q)
        go_wp2_with fail
        go_quiet (first | (go_at_call 14; with_reducible exact Calls.quiet_of (BX.out _)) | (go_at_call 14; with_reducible exact Calls.quiet_of (BA.out _)) | (go_at_call 14; with_reducible exact Calls.quiet_of (BB.out _)))
        go_wp2_with fail
        clear BX BA BB ex XL BTB BT TL A0 hle hcap
        refine (seal_call _ a _ (SA.out.kept (KW2.out nq) (by simp)) YA.out (by have := LA.out; omega)).mono ?_
        rintro e w3 ⟨vs, rfl, k3, m3⟩
        have hos : ∃ gs, Own w3 gs vs (sealed a) := by
          rcases m3.1 with ⟨_, h⟩ | h
          · have := sealed_length a; rw [h] at this; simp at this
          · exact h
        obtain ⟨gs, hos⟩ := hos
        have hgs := m3.2 gs (by obtain ⟨_, _, e, _⟩ := hos; rw [e]; rfl)
        obtain ⟨m, hm⟩ : ∃ m, (sealed a).length = m := ⟨_, rfl⟩
        have HM := Lib.hid hm
        have LM := Lib.hid (show m = a.length + 4 ∧ m ≤ 4004 from by have := sealed_length a; have := LA.out; omega)
        have hy : ∃ cap2, vs = .slice (some ⟨gs, 0, none⟩) m cap2 ∧ m ≤ cap2 := by
          obtain ⟨c, cur, e, _, h2, _⟩ := hos
          rw [hm] at e h2
          exact ⟨c, e, h2⟩
        obtain ⟨cap2, rfl, hcap2⟩ := hy
        have K3 := Lib.hid ((KW2.out nq).trans k3)
        have G3 := Lib.hid (show w.heap.size ≤ gs from Nat.le_trans (KW2.out nq).size hgs)
        have O3 := Lib.hid hos
        clear k3 m3 hos hgs hm KW2 KW
        go_wp2_with fail
        go_loopw [9] (TuRel w3 gs (.slice (some ⟨gs, 0, none⟩) m cap2) (sealed a) b) (fun i _ => m - (intOf i).toNat)
        case atStart => exact ⟨0, w3, rfl, by omega, by omega, rfl, Kept.refl _ _, by rw [xl_mask_zero (sealed_by YA.out) rfl]; exact O3.out⟩
        case round =>
          obtain ⟨k, wt, rfl, hk, hkb, rfl, hK, hO⟩ := hrel
          rw [HM.out] at hk hO
          have hkm : k ≤ m := hk
          have KT := Lib.hid (K3.out.fresh hK (by intro i hi hl; simp at hi; have := G3.out; omega))
          have HO := Lib.hid hO
          have HK := Lib.hid hK
          have b4 := LB.out
          clear hK hO
          rcases Nat.lt_or_ge k m with hkn | hkn
          · rcases Nat.lt_or_ge k b.length with g3 | g3
            · obtain ⟨bb, boff, htp, qb⟩ := SlC.Bytes.at_ (SB.out.kept KT.out (by simp)) k g3
              subst htp
              have q0 := SlC.Own.cellAt HO.out k (by rw [xl_length _ _ (by rw [HM.out, mask_len hkb hkm]), HM.out]; exact hkn)
              rw [xl_mask_get (sealed_by YA.out) HM.out hkn hkb] at q0
              have z0 := SlC.Own.free HO.out k
              obtain ⟨x, hx⟩ : ∃ x, (sealed a).getD k 0 = x := ⟨_, rfl⟩
              obtain ⟨z, hz⟩ : ∃ z, b.getD k 0 = z := ⟨_, rfl⟩
              rw [hx] at q0
              rw [hz] at qb
              have HX := Lib.hid hx
              have HZ := Lib.hid hz
              clear hx hz
              have g1 : k < cap2 := by omega
              have g2 : k < tc := by omega
              go_wp2_with fail
              refine wp_region_still_tail 10 (by kernel_rfl) (by kernel_rfl) ?_
              simp only [List.take_succ_cons, List.take_zero, List.drop_succ_cons, List.drop_zero]
              repeat (first | still_step)
              refine wpStill_nil ?_
              change wpList _ _ _ _ _ wt.drew
              have q0' : wt.drew.cell? ⟨gs, k, none⟩ = some (.int .u8 x) := q0
              have z0' : wt.drew.frozen? ⟨gs, k, none⟩ = false := z0
              go_wp2_with fail
              go_roundw
              case rel =>
                refine ⟨k + 1, _, rfl, by rw [HM.out]; omega, by omega, by go_num, (HK.out.set ⟨gs, k, none⟩ _ (by simp)).drew, ?_⟩
                have := (SlC.Own.set HO.out k (xb x z) (by rw [xl_length _ _ (by rw [HM.out, mask_len hkb hkm]), HM.out]; exact hkn)).kept ((Kept.refl [] _).drew) (by simp)
                have e := xl_mask_step (s := sealed a) (b := b) (i := k) HM.out hkn g3
                rw [HX.out, HZ.out] at e
                rw [e] at this
                rw [HM.out]
                exact this
              case measure => simp [intOf]; omega
            · obtain hq0 : k = b.length := by omega
              have pat := crc_pattern YA.out YB.out HM.out hkb hkm
              have hE : b.take m ++ List.replicate (m - b.length) 0 = mask m b k := by
                unfold mask
                rcases (show k = m ∨ k = b.length from .inr hq0) with hq | hq
                · subst hq; rw [show k - b.length = k - k by omega]
                · subst hq
                  rw [List.take_of_length_le (by omega), List.take_of_length_le (Nat.le_refl _)]
              have kA := (Kept.refl [] wt).alloc (.cells (U8 (List.replicate m 0)).toArray 5)
              have hB0 := (SB.out.kept KT.out (by simp)).kept kA (by simp)
              obtain ⟨kc, w4, hcp, h4, k4⟩ := run_copyN 3 _ wt.heap.size m _ b hB0 (Has.new wt 5 (U8 (List.replicate m 0)))
              have hmk := run_makeN m (by have := LM.out; omega)
              rw [hE] at h4
              have OE : Own w4 wt.heap.size (.slice (some ⟨wt.heap.size, 0, none⟩) m m) (mask m b k) := ⟨m, _, by rw [mask_len hkb hkm], h4, by rw [mask_len hkb hkm]; exact Nat.le_refl _, by have := LM.out; unfold maxLen; omega, by simp [U8, mask_len hkb hkm], by rw [List.take_of_length_le (by simp [U8])]⟩
              have OE' := Lib.hid OE
              have K4 := Lib.hid (KT.out.trans (kA.fresh k4 (by intro i hi hl; simp at hi; omega)))
              have OS := Lib.hid ((HO.out.kept kA (by simp)).kept k4 (by have := HO.out.lt; simp; omega))
              have PAT := Lib.hid pat
              clear kA hB0 h4 k4 OE hE pat HO HK KT
              go_wp2_with fail
              refine (gen_call _).mono ?_
              rintro e w5 ⟨rfl, k5⟩
              have OE5 := Lib.hid (OE'.out.kept k5 (by simp))
              have OS5 := Lib.hid (OS.out.kept k5 (by simp))
              have K5 := Lib.hid (K4.out.trans k5)
              clear k5 OE' OS K4 hcp hmk
              go_wp2_with fail
              refine (of_call _ (mask m b k) _ OE5.out.bytes (Pure.mask_by YB.out) (by rw [mask_len hkb hkm]; have := LM.out; omega)).mono ?_
              rintro e w6 ⟨rfl, k6⟩
              have OS6 := Lib.hid (OS5.out.kept k6 (by simp))
              have K6 := Lib.hid (K5.out.trans k6)
              have hxm : (xl (sealed a) (mask m b k)).length = m := by rw [xl_length _ _ (by rw [HM.out, mask_len hkb hkm])]; exact HM.out
              have VC := Lib.hid (valid_call _ _ w6 OS6.out.bytes (xl_by (sealed_by YA.out) (mask_by YB.out)) (by rw [hxm]; have := LM.out; omega) (by rw [hxm]; have := LM.out; omega))
              have fin : (decide (Gf.crc (xl (sealed a) (mask m b k)) = 0) == (((Gf.pm Gf.G 32 (Gf.pol (mask m b k)) : Nat) : Int) == 0)) = true := by
                by_cases z : Gf.pm Gf.G 32 (Gf.pol (mask m b k)) = 0
                · rw [z, decide_eq_true (PAT.out.2 z)]; rfl
                · rw [decide_eq_false (fun h => z (PAT.out.1 h))]; simp; omega
              generalize decide (Gf.crc (xl (sealed a) (mask m b k)) = 0) = bv at *
              generalize Gf.pm Gf.G 32 (Gf.pol (mask m b k)) = pr at *
              clear k6 OE5 OS5 K5 hxm
              go_wp2_with fail
              refine VC.out.mono ?_
              rintro e w7 ⟨rfl, q7, rfl⟩
              go_wp2_with fail
              go_ret
              exact ⟨rfl, (K6.out.drewN q7).toBelow (by simp)⟩
          · obtain hq0 : k = m := by omega
            have pat := crc_pattern YA.out YB.out HM.out hkb hkm
            have hE : b.take m ++ List.replicate (m - b.length) 0 = mask m b k := by
              unfold mask
              rcases (show k = m ∨ k = b.length from .inl hq0) with hq | hq
              · subst hq; rw [show k - b.length = k - k by omega]
              · subst hq
                rw [List.take_of_length_le (by omega), List.take_of_length_le (Nat.le_refl _)]
            have kA := (Kept.refl [] wt).alloc (.cells (U8 (List.replicate m 0)).toArray 5)
            have hB0 := (SB.out.kept KT.out (by simp)).kept kA (by simp)
            obtain ⟨kc, w4, hcp, h4, k4⟩ := run_copyN 3 _ wt.heap.size m _ b hB0 (Has.new wt 5 (U8 (List.replicate m 0)))
            have hmk := run_makeN m (by have := LM.out; omega)
            rw [hE] at h4
            have OE : Own w4 wt.heap.size (.slice (some ⟨wt.heap.size, 0, none⟩) m m) (mask m b k) := ⟨m, _, by rw [mask_len hkb hkm], h4, by rw [mask_len hkb hkm]; exact Nat.le_refl _, by have := LM.out; unfold maxLen; omega, by simp [U8, mask_len hkb hkm], by rw [List.take_of_length_le (by simp [U8])]⟩
            have OE' := Lib.hid OE
            have K4 := Lib.hid (KT.out.trans (kA.fresh k4 (by intro i hi hl; simp at hi; omega)))
            have OS := Lib.hid ((HO.out.kept kA (by simp)).kept k4 (by have := HO.out.lt; simp; omega))
            have PAT := Lib.hid pat
            clear kA hB0 h4 k4 OE hE pat HO HK KT
            go_wp2_with fail
            refine (gen_call _).mono ?_
            rintro e w5 ⟨rfl, k5⟩
            have OE5 := Lib.hid (OE'.out.kept k5 (by simp))
            have OS5 := Lib.hid (OS.out.kept k5 (by simp))
            have K5 := Lib.hid (K4.out.trans k5)
            clear k5 OE' OS K4 hcp hmk
            go_wp2_with fail
            refine (of_call _ (mask m b k) _ OE5.out.bytes (Pure.mask_by YB.out) (by rw [mask_len hkb hkm]; have := LM.out; omega)).mono ?_
            rintro e w6 ⟨rfl, k6⟩
            have OS6 := Lib.hid (OS5.out.kept k6 (by simp))
            have K6 := Lib.hid (K5.out.trans k6)
            have hxm : (xl (sealed a) (mask m b k)).length = m := by rw [xl_length _ _ (by rw [HM.out, mask_len hkb hkm])]; exact HM.out
            have VC := Lib.hid (valid_call _ _ w6 OS6.out.bytes (xl_by (sealed_by YA.out) (mask_by YB.out)) (by rw [hxm]; have := LM.out; omega) (by rw [hxm]; have := LM.out; omega))
            have fin : (decide (Gf.crc (xl (sealed a) (mask m b k)) = 0) == (((Gf.pm Gf.G 32 (Gf.pol (mask m b k)) : Nat) : Int) == 0)) = true := by
              by_cases z : Gf.pm Gf.G 32 (Gf.pol (mask m b k)) = 0
              · rw [z, decide_eq_true (PAT.out.2 z)]; rfl
              · rw [decide_eq_false (fun h => z (PAT.out.1 h))]; simp; omega
            generalize decide (Gf.crc (xl (sealed a) (mask m b k)) = 0) = bv at *
            generalize Gf.pm Gf.G 32 (Gf.pol (mask m b k)) = pr at *
            clear k6 OE5 OS5 K5 hxm
            go_wp2_with fail
            refine VC.out.mono ?_
            rintro e w7 ⟨rfl, q7, rfl⟩
            go_wp2_with fail
            go_ret
            exact ⟨rfl, (K6.out.drewN q7).toBelow (by simp)⟩
  · obtain rfl : n = a.length := by omega
    clear hn
    obtain ⟨A, hA⟩ : ∃ A, a.take a.length = A := ⟨_, rfl⟩
    rw [hA] at A0 TL
    have BT := Lib.hid (show Gf.By A from hA ▸ by_take YA.out a.length)
    have HA := Lib.hid hA
    clear hA
    go_wp2_with (at_builtin; refine wpList_app rfl _ _ rfl w0 (.slice sp a.length sc) A _ rfl rfl rfl A0.out (by rw [TL.out]; have := LA.out; omega) ?_)
    intro y w1 k1 gx hgx hox
    have hy : ∃ cap, y = .slice (some ⟨gx, 0, none⟩) a.length cap ∧ a.length ≤ cap := by
      obtain ⟨cap, cur, e, _, h2, _⟩ := hox
      rw [TL.out] at e h2
      exact ⟨cap, e, h2⟩
    obtain ⟨cap, rfl, hcap⟩ := hy
    have K1 := Lib.hid (K0.out.trans k1)
    have OX := Lib.hid hox
    have GX := Lib.hid (show w.heap.size ≤ gx from Nat.le_trans K0.out.size hgx)
    clear k1 hox hgx
    go_wp2_with fail
    go_loopw [7] (TuRel w1 gx (.slice (some ⟨gx, 0, none⟩) a.length cap) A b) (fun i _ => a.length - (intOf i).toNat)
    case atStart => exact ⟨0, w1, rfl, by omega, by omega, rfl, Kept.refl _ _, by rw [xl_mask_zero BT.out rfl]; exact OX.out⟩
    case round =>
      obtain ⟨k, ws, rfl, hk, hkb, rfl, hK, hO⟩ := hrel
      rw [TL.out] at hk
      have KW := Lib.hid (K1.out.fresh hK (by intro i hi hl; simp at hi; have := GX.out; omega))
      have HO := Lib.hid hO
      have HK := Lib.hid hK
      clear hK hO
      rcases Nat.lt_or_ge k a.length with hkn | hkn
      · obtain ⟨bb, boff, htp, qb⟩ := SlC.Bytes.at_ (SB.out.kept KW.out (by simp)) k (by omega)
        subst htp
        have hlx := xl_length A (mask A.length b k) (mask_len hkb (by rw [TL.out]; exact hk)).symm
        have q0 := SlC.Own.cellAt HO.out k (by rw [hlx, TL.out]; exact hkn)
        rw [xl_mask_get BT.out rfl (by rw [TL.out]; exact hkn) hkb] at q0
        have z0 := SlC.Own.free HO.out k
        have b4 := LB.out
        obtain ⟨x, hx⟩ : ∃ x, A.getD k 0 = x := ⟨_, rfl⟩
        obtain ⟨z, hz⟩ : ∃ z, b.getD k 0 = z := ⟨_, rfl⟩
        rw [hx] at q0
        rw [hz] at qb
        have HX := Lib.hid hx
        have HZ := Lib.hid hz
        clear hx hz
        have g1 : k < cap := by omega
        have g2 : k < tc := by omega
        have g3 : k < b.length := by omega
        clear hlx
        go_wp2_with fail
        refine wp_region_still_tail 10 (by kernel_rfl) (by kernel_rfl) ?_
        simp only [List.take_succ_cons, List.take_zero, List.drop_succ_cons, List.drop_zero]
        repeat (first | still_step)
        refine wpStill_nil ?_
        change wpList _ _ _ _ _ ws.drew
        have q0' : ws.drew.cell? ⟨gx, k, none⟩ = some (.int .u8 x) := q0
        have z0' : ws.drew.frozen? ⟨gx, k, none⟩ = false := z0
        go_wp2_with fail
        go_roundw
        case rel =>
          refine ⟨k + 1, _, rfl, by rw [TL.out]; omega, by omega, by go_num, (HK.out.set ⟨gx, k, none⟩ _ (by simp)).drew, ?_⟩
          have := (SlC.Own.set HO.out k (xb x z) (by rw [xl_length _ _ (mask_len hkb (by rw [TL.out]; exact hk)).symm, TL.out]; exact hkn)).kept ((Kept.refl [] _).drew) (by simp)
          have e := xl_mask_step (s := A) (b := b) (i := k) rfl (by rw [TL.out]; exact hkn) g3
          rw [HX.out, HZ.out] at e
          rw [e] at this
          exact this
        case measure => simp [intOf]; omega
      · obtain rfl : k = a.length := by omega
        have hfin : mask A.length b a.length = b.take a.length := by rw [TL.out]; exact mask_all
        have hO2 := HO.out
        rw [hfin] at hO2
        have hle : A.length = (b.take a.length).length := by rw [TL.out, List.length_take]; omega
        have BTB := Lib.hid (by_take YB.out a.length)
        have XL := Lib.hid (show (xl A (b.take a.length)).length = a.length by rw [xl_length _ _ hle]; exact TL.out)
        have BX0 := (fun q => bits_call _ _ (ws.drewN q) (hO2.bytes.kept ((Kept.refl [] ws).drewN q) (by simp)) (xl_by BT.out BTB.out) (by rw [XL.out]; have := LA.out; omega))
        have BA0 := (fun q => bits_call (.slice sp a.length sc) A (ws.drewN q) (HA.out ▸ SlC.Bytes.head (SA.out.kept (KW.out.drewN q) (by simp)) a.length hna) BT.out (by rw [TL.out]; have := LA.out; omega))
        have BB0 := (fun q => bits_call (.slice tp a.length tc) (b.take a.length) (ws.drewN q) (SlC.Bytes.head (SB.out.kept (KW.out.drewN q) (by simp)) a.length hnb) BTB.out (by rw [← hle, TL.out]; have := LA.out; omega))
        have cx := crc_xl BT.out BTB.out hle
        have ex : (((Gf.crc (xl A (b.take a.length)) : Nat) : Int) != bits .xor .u32 ((Gf.crc A : Nat) : Int) ((Gf.crc (b.take a.length) : Nat) : Int)) = false := by
          rw [cx, Go.Proofs.Ytcnlomknmhgpbaa.Bt.xor32 (Gf.crc_lt _) (Gf.crc_lt _)]; simp
        generalize Gf.crc (xl A (b.take a.length)) = cX at BX0 ex
        generalize Gf.crc A = cA at BA0 ex
        generalize Gf.crc (b.take a.length) = cB at BB0 ex
        have BX := Lib.hid BX0
        have BA := Lib.hid BA0
        have BB := Lib.hid BB0
        clear cx hfin hO2 HO HK OX BX0 BA0 BB0
        have KW2 := Lib.hid (fun q => KW.out.drewN q)
        go_wp2_with fail
        go_quiet (first | (go_at_call 14; with_reducible exact Calls.quiet_of (BX.out _)) | (go_at_call 14; with_reducible exact Calls.quiet_of (BA.out _)) | (go_at_call 14; with_reducible exact Calls.quiet_of (BB.out _)))
        go_wp2_with fail
        clear BX BA BB ex XL BTB BT TL A0 hle hcap
        refine (seal_call _ a _ (SA.out.kept (KW2.out nq) (by simp)) YA.out (by have := LA.out; omega)).mono ?_
        rintro e w3 ⟨vs, rfl, k3, m3⟩
        have hos : ∃ gs, Own w3 gs vs (sealed a) := by
          rcases m3.1 with ⟨_, h⟩ | h
          · have := sealed_length a; rw [h] at this; simp at this
          · exact h
        obtain ⟨gs, hos⟩ := hos
        have hgs := m3.2 gs (by obtain ⟨_, _, e, _⟩ := hos; rw [e]; rfl)
        obtain ⟨m, hm⟩ : ∃ m, (sealed a).length = m := ⟨_, rfl⟩
        have HM := Lib.hid hm
        have LM := Lib.hid (show m = a.length + 4 ∧ m ≤ 4004 from by have := sealed_length a; have := LA.out; omega)
        have hy : ∃ cap2, vs = .slice (some ⟨gs, 0, none⟩) m cap2 ∧ m ≤ cap2 := by
          obtain ⟨c, cur, e, _, h2, _⟩ := hos
          rw [hm] at e h2
          exact ⟨c, e, h2⟩
        obtain ⟨cap2, rfl, hcap2⟩ := hy
        have K3 := Lib.hid ((KW2.out nq).trans k3)
        have G3 := Lib.hid (show w.heap.size ≤ gs from Nat.le_trans (KW2.out nq).size hgs)
        have O3 := Lib.hid hos
        clear k3 m3 hos hgs hm KW2 KW
        go_wp2_with fail
        go_loopw [9] (TuRel w3 gs (.slice (some ⟨gs, 0, none⟩) m cap2) (sealed a) b) (fun i _ => m - (intOf i).toNat)
        case atStart => exact ⟨0, w3, rfl, by omega, by omega, rfl, Kept.refl _ _, by rw [xl_mask_zero (sealed_by YA.out) rfl]; exact O3.out⟩
        case round =>
          obtain ⟨k, wt, rfl, hk, hkb, rfl, hK, hO⟩ := hrel
          rw [HM.out] at hk hO
          have hkm : k ≤ m := hk
          have KT := Lib.hid (K3.out.fresh hK (by intro i hi hl; simp at hi; have := G3.out; omega))
          have HO := Lib.hid hO
          have HK := Lib.hid hK
          have b4 := LB.out
          clear hK hO
          rcases Nat.lt_or_ge k m with hkn | hkn
          · rcases Nat.lt_or_ge k b.length with g3 | g3
            · obtain ⟨bb, boff, htp, qb⟩ := SlC.Bytes.at_ (SB.out.kept KT.out (by simp)) k g3
              subst htp
              have q0 := SlC.Own.cellAt HO.out k (by rw [xl_length _ _ (by rw [HM.out, mask_len hkb hkm]), HM.out]; exact hkn)
              rw [xl_mask_get (sealed_by YA.out) HM.out hkn hkb] at q0
              have z0 := SlC.Own.free HO.out k
              obtain ⟨x, hx⟩ : ∃ x, (sealed a).getD k 0 = x := ⟨_, rfl⟩
              obtain ⟨z, hz⟩ : ∃ z, b.getD k 0 = z := ⟨_, rfl⟩
              rw [hx] at q0
              rw [hz] at qb
              have HX := Lib.hid hx
              have HZ := Lib.hid hz
              clear hx hz
              have g1 : k < cap2 := by omega
              have g2 : k < tc := by omega
              go_wp2_with fail
              refine wp_region_still_tail 10 (by kernel_rfl) (by kernel_rfl) ?_
              simp only [List.take_succ_cons, List.take_zero, List.drop_succ_cons, List.drop_zero]
              repeat (first | still_step)
              refine wpStill_nil ?_
              change wpList _ _ _ _ _ wt.drew
              have q0' : wt.drew.cell? ⟨gs, k, none⟩ = some (.int .u8 x) := q0
              have z0' : wt.drew.frozen? ⟨gs, k, none⟩ = false := z0
              go_wp2_with fail
              go_roundw
              case rel =>
                refine ⟨k + 1, _, rfl, by rw [HM.out]; omega, by omega, by go_num, (HK.out.set ⟨gs, k, none⟩ _ (by simp)).drew, ?_⟩
                have := (SlC.Own.set HO.out k (xb x z) (by rw [xl_length _ _ (by rw [HM.out, mask_len hkb hkm]), HM.out]; exact hkn)).kept ((Kept.refl [] _).drew) (by simp)
                have e := xl_mask_step (s := sealed a) (b := b) (i := k) HM.out hkn g3
                rw [HX.out, HZ.out] at e
                rw [e] at this
                rw [HM.out]
                exact this
              case measure => simp [intOf]; omega
            · obtain hq0 : k = b.length := by omega
              have pat := crc_pattern YA.out YB.out HM.out hkb hkm
              have hE : b.take m ++ List.replicate (m - b.length) 0 = mask m b k := by
                unfold mask
                rcases (show k = m ∨ k = b.length from .inr hq0) with hq | hq
                · subst hq; rw [show k - b.length = k - k by omega]
                · subst hq
                  rw [List.take_of_length_le (by omega), List.take_of_length_le (Nat.le_refl _)]
              have kA := (Kept.refl [] wt).alloc (.cells (U8 (List.replicate m 0)).toArray 5)
              have hB0 := (SB.out.kept KT.out (by simp)).kept kA (by simp)
              obtain ⟨kc, w4, hcp, h4, k4⟩ := run_copyN 3 _ wt.heap.size m _ b hB0 (Has.new wt 5 (U8 (List.replicate m 0)))
              have hmk := run_makeN m (by have := LM.out; omega)
              rw [hE] at h4
              have OE : Own w4 wt.heap.size (.slice (some ⟨wt.heap.size, 0, none⟩) m m) (mask m b k) := ⟨m, _, by rw [mask_len hkb hkm], h4, by rw [mask_len hkb hkm]; exact Nat.le_refl _, by have := LM.out; unfold maxLen; omega, by simp [U8, mask_len hkb hkm], by rw [List.take_of_length_le (by simp [U8])]⟩
              have OE' := Lib.hid OE
              have K4 := Lib.hid (KT.out.trans (kA.fresh k4 (by intro i hi hl; simp at hi; omega)))
              have OS := Lib.hid ((HO.out.kept kA (by simp)).kept k4 (by have := HO.out.lt; simp; omega))
              have PAT := Lib.hid pat
              clear kA hB0 h4 k4 OE hE pat HO HK KT
              go_wp2_with fail
              refine (gen_call _).mono ?_
              rintro e w5 ⟨rfl, k5⟩
              have OE5 := Lib.hid (OE'.out.kept k5 (by simp))
              have OS5 := Lib.hid (OS.out.kept k5 (by simp))
              have K5 := Lib.hid (K4.out.trans k5)
              clear k5 OE' OS K4 hcp hmk
              go_wp2_with fail
              refine (of_call _ (mask m b k) _ OE5.out.bytes (Pure.mask_by YB.out) (by rw [mask_len hkb hkm]; have := LM.out; omega)).mono ?_
              rintro e w6 ⟨rfl, k6⟩
              have OS6 := Lib.hid (OS5.out.kept k6 (by simp))
              have K6 := Lib.hid (K5.out.trans k6)
              have hxm : (xl (sealed a) (mask m b k)).length = m := by rw [xl_length _ _ (by rw [HM.out, mask_len hkb hkm])]; exact HM.out
              have VC := Lib.hid (valid_call _ _ w6 OS6.out.bytes (xl_by (sealed_by YA.out) (mask_by YB.out)) (by rw [hxm]; have := LM.out; omega) (by rw [hxm]; have := LM.out; omega))
              have fin : (decide (Gf.crc (xl (sealed a) (mask m b k)) = 0) == (((Gf.pm Gf.G 32 (Gf.pol (mask m b k)) : Nat) : Int) == 0)) = true := by
                by_cases z : Gf.pm Gf.G 32 (Gf.pol (mask m b k)) = 0
                · rw [z, decide_eq_true (PAT.out.2 z)]; rfl
                · rw [decide_eq_false (fun h => z (PAT.out.1 h))]; simp; omega
              generalize decide (Gf.crc (xl (sealed a) (mask m b k)) = 0) = bv at *
              generalize Gf.pm Gf.G 32 (Gf.pol (mask m b k)) = pr at *
              clear k6 OE5 OS5 K5 hxm
              go_wp2_with fail
              refine VC.out.mono ?_
              rintro e w7 ⟨rfl, q7, rfl⟩
              go_wp2_with fail
              go_ret
              exact ⟨rfl, (K6.out.drewN q7).toBelow (by simp)⟩
          · obtain hq0 : k = m := by omega
            have pat := crc_pattern YA.out YB.out HM.out hkb hkm
            have hE : b.take m ++ List.replicate (m - b.length) 0 = mask m b k := by
              unfold mask
              rcases (show k = m ∨ k = b.length from .inl hq0) with hq | hq
              · subst hq; rw [show k - b.length = k - k by omega]
              · subst hq
                rw [List.take_of_length_le (by omega), List.take_of_length_le (Nat.le_refl _)]
            have kA := (Kept.refl [] wt).alloc (.cells (U8 (List.replicate m 0)).toArray 5)
            have hB0 := (SB.out.kept KT.out (by simp)).kept kA (by simp)
            obtain ⟨kc, w4, hcp, h4, k4⟩ := run_copyN 3 _ wt.heap.size m _ b hB0 (Has.new wt 5 (U8 (List.replicate m 0)))
            have hmk := run_makeN m (by have := LM.out; omega)
            rw [hE] at h4
            have OE : Own w4 wt.heap.size (.slice (some ⟨wt.heap.size, 0, none⟩) m m) (mask m b k) := ⟨m, _, by rw [mask_len hkb hkm], h4, by rw [mask_len hkb hkm]; exact Nat.le_refl _, by have := LM.out; unfold maxLen; omega, by simp [U8, mask_len hkb hkm], by rw [List.take_of_length_le (by simp [U8])]⟩
            have OE' := Lib.hid OE
            have K4 := Lib.hid (KT.out.trans (kA.fresh k4 (by intro i hi hl; simp at hi; omega)))
            have OS := Lib.hid ((HO.out.kept kA (by simp)).kept k4 (by have := HO.out.lt; simp; omega))
            have PAT := Lib.hid pat
            clear kA hB0 h4 k4 OE hE pat HO HK KT
            go_wp2_with fail
            refine (gen_call _).mono ?_
            rintro e w5 ⟨rfl, k5⟩
            have OE5 := Lib.hid (OE'.out.kept k5 (by simp))
            have OS5 := Lib.hid (OS.out.kept k5 (by simp))
            have K5 := Lib.hid (K4.out.trans k5)
            clear k5 OE' OS K4 hcp hmk
            go_wp2_with fail
            refine (of_call _ (mask m b k) _ OE5.out.bytes (Pure.mask_by YB.out) (by rw [mask_len hkb hkm]; have := LM.out; omega)).mono ?_
            rintro e w6 ⟨rfl, k6⟩
            have OS6 := Lib.hid (OS5.out.kept k6 (by simp))
            have K6 := Lib.hid (K5.out.trans k6)
            have hxm : (xl (sealed a) (mask m b k)).length = m := by rw [xl_length _ _ (by rw [HM.out, mask_len hkb hkm])]; exact HM.out
            have VC := Lib.hid (valid_call _ _ w6 OS6.out.bytes (xl_by (sealed_by YA.out) (mask_by YB.out)) (by rw [hxm]; have := LM.out; omega) (by rw [hxm]; have := LM.out; omega))
            have fin : (decide (Gf.crc (xl (sealed a) (mask m b k)) = 0) == (((Gf.pm Gf.G 32 (Gf.pol (mask m b k)) : Nat) : Int) == 0)) = true := by
              by_cases z : Gf.pm Gf.G 32 (Gf.pol (mask m b k)) = 0
              · rw [z, decide_eq_true (PAT.out.2 z)]; rfl
              · rw [decide_eq_false (fun h => z (PAT.out.1 h))]; simp; omega
            generalize decide (Gf.crc (xl (sealed a) (mask m b k)) = 0) = bv at *
            generalize Gf.pm Gf.G 32 (Gf.pol (mask m b k)) = pr at *
            clear k6 OE5 OS5 K5 hxm
            go_wp2_with fail
            refine VC.out.mono ?_
            rintro e w7 ⟨rfl, q7, rfl⟩
            go_wp2_with fail
            go_ret
            exact ⟨rfl, (K6.out.drewN q7).toBelow (by simp)⟩
theorem by_of {l : List Int} (hw : ∀ i, i < l.length → (Lit.int .u8 (l.getD i 0)).wf = true) : Gf.By l := by
  intro z hz
  obtain ⟨i, hi, rfl⟩ := List.getElem_of_mem hz
  have := hw i hi
  rw [List.getD_eq_getElem?_getD, List.getElem?_eq_getElem hi, Option.getD_some] at this
  simp [Lit.wf, IntKind.min, IntKind.max, IntKind.signed, IntKind.bits] at this
  omega
theorem CrcSums_law (x : Option Addr) (len cap : Nat) (y : Option Addr) (len2 cap2 : Nat) (w : World) (hf : ∃ n, Fits Try.prog w n 22 [.slice x len cap]) (hg : ∃ n, Fits Try.prog w n 22 [.slice y len2 cap2]) :
    Calls Try.prog 8 #[.slice x len cap, .slice y len2 cap2] w fun e w' => e = .returned (.bool true) ∧ Below w.heap.size w w' := by
  obtain ⟨n, hf⟩ := hf
  obtain ⟨n2, hg⟩ := hg
  obtain ⟨a, rfl, ha, _, wa⟩ := bytes_of_fits hf
  obtain ⟨b, rfl, hb, _, wb⟩ := bytes_of_fits hg
  by_cases h : a.length ≤ 4000 ∧ b.length ≤ 4000
  · exact CrcSums_walk _ _ a b w ha hb (by_of wa) (by_of wb) h.1 h.2
  · exact CrcSums_skip _ _ a b w ha hb (by omega)
end Go.Proofs.Ytcnlomknmhgpbaa.S02
