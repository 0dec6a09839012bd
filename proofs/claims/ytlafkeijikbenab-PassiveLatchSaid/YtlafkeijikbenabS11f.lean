/- Layer 11: the law PassiveLatch. -/
import Derived.Test.YtlafkeijikbenabS11e
namespace Go.Proofs.Ytlafkeijikbenab.S11
open Go Go.RowKit Go.Proofs.Ytlafkeijikbenab.Hp Go.Proofs.Ytlafkeijikbenab.GateC Go.Proofs.Ytlafkeijikbenab.Sl Go.Proofs.Ytlafkeijikbenab.ValveC Go.Proofs.Ytlafkeijikbenab.ValveR Go.Proofs.Ytlafkeijikbenab.Fit
set_option linter.unusedVariables false
set_option linter.unusedSimpArgs false
/-- While a fault is latched there is no value. -/
def _root_.Go.Proofs.Ytlafkeijikbenab.ValveC.V.shut (x : V) : Prop := x.latched ≠ 0 → x.value = none
theorem V_shut_step {x : V} (hs : x.shut) (k c : Int) (on : Bool) (l : List Int) : (x.step k c on l).shut := by
  obtain ⟨n, r, f, hd, lt, vl⟩ := x
  unfold V.shut at *
  simp only [] at hs
  unfold V.step
  by_cases k1 : k = 1
  · simp only [k1, if_true]
    by_cases hc : c = 0
    · simp [V.trip, hc]; exact hs
    · simp [V.trip, hc]
  rw [if_neg k1]
  by_cases k2 : k = 2
  · rw [if_pos k2]
    by_cases hc : r = on
    · simp [V.run, hc]; exact hs
    · simp [V.run, hc]
  rw [if_neg k2]
  by_cases k3 : k = 3
  · rw [if_pos k3]; simp [V.come]; exact hs
  rw [if_neg k3]
  by_cases k4 : k = 4
  · rw [if_pos k4]; simp [V.holds]; exact hs
  rw [if_neg k4]
  by_cases k5 : k = 5
  · rw [if_pos k5]
    by_cases hl : (l.length : Int) = n
    · rw [if_pos hl]
      by_cases hr : r && (lt == 0)
      · simp only [V.take, hr, if_true]
        intro h0
        simp at hr
        exact absurd hr.2 h0
      · simp only [V.take, hr]; exact hs
    · rw [if_neg hl]; exact hs
  rw [if_neg k5]
  by_cases k6 : k = 6
  · rw [if_pos k6]
    by_cases hr : V.request ⟨n, r, f, hd, lt, vl⟩
    · simp only [V.ack, hr, if_true]; intro h0; exact absurd rfl h0
    · simp only [V.ack, hr]; exact hs
  rw [if_neg k6]; exact hs
theorem V_on_shut {x : V} (hs : x.shut) (h : x.latched ≠ 0) : x.on = false := by simp [V.on, hs h]
/-- What a call makes of the latch. -/
theorem latch_step (x : V) (hx : x.ok) (k c : Int) (on : Bool) (l : List Int) :
    (k = 1 ∧ c ≠ 0 ∧ (x.step k c on l).latched = (if x.latched = 0 then c else x.latched) ∧ (x.step k c on l).fresh = false) ∨
    (k = 6 ∧ x.res k l = 0 ∧ x.latched ≠ 0 ∧ x.fresh = true ∧ (x.step k c on l).latched = 0 ∧ (x.step k c on l).fresh = false) ∨
    (k = 3 ∧ (x.step k c on l).latched = x.latched ∧ (x.step k c on l).fresh = (x.latched != 0)) ∨
    (¬ (k = 1 ∧ c ≠ 0) ∧ ¬ (k = 6 ∧ x.res k l = 0) ∧ k ≠ 3 ∧ (x.step k c on l).latched = x.latched ∧ (x.step k c on l).fresh = x.fresh) := by
  by_cases k1 : k = 1
  · by_cases hc : c = 0
    · refine .inr (.inr (.inr ⟨by simp [hc], by simp [k1], by simp [k1], ?_, ?_⟩)) <;> simp [V.step, k1, V.trip, hc]
    · refine .inl ⟨k1, hc, ?_, ?_⟩ <;> simp [V.step, k1, V.trip, hc]
  by_cases k6 : k = 6
  · by_cases hr : x.request = true
    · have hr' := hr
      simp [V.request] at hr'
      refine .inr (.inl ⟨k6, by simp [V.res, k6, hr], hr'.2.2, hr'.2.1, ?_, ?_⟩) <;> simp [V.step, k6, V.ack, hr]
    · refine .inr (.inr (.inr ⟨by simp [k6], by simp [V.res, k6, hr], by simp [k6], ?_, ?_⟩)) <;> simp [V.step, k6, V.ack, hr]
  by_cases k3 : k = 3
  · refine .inr (.inr (.inl ⟨k3, ?_, ?_⟩)) <;> simp [V.step, k3, V.come]
  · refine .inr (.inr (.inr ⟨by simp [k1], by simp [k6], k3, ?_, ?_⟩))
    · unfold V.step
      rw [if_neg k1, if_neg k3, if_neg k6]
      by_cases k2 : k = 2
      · rw [if_pos k2]; by_cases e : x.running = on <;> simp [V.run, e]
      rw [if_neg k2]
      by_cases k4 : k = 4
      · rw [if_pos k4]; simp [V.holds]
      rw [if_neg k4]
      by_cases k5 : k = 5
      · rw [if_pos k5]
        by_cases e : (l.length : Int) = x.n
        · rw [if_pos e]; by_cases hr : x.running && (x.latched == 0)
          · simp only [V.take, hr, if_true]
          · simp only [V.take, hr]; rfl
        · rw [if_neg e]
      rw [if_neg k5]
    · unfold V.step
      rw [if_neg k1, if_neg k3, if_neg k6]
      by_cases k2 : k = 2
      · rw [if_pos k2]; by_cases e : x.running = on <;> simp [V.run, e]
      rw [if_neg k2]
      by_cases k4 : k = 4
      · rw [if_pos k4]; simp [V.holds]
      rw [if_neg k4]
      by_cases k5 : k = 5
      · rw [if_pos k5]
        by_cases e : (l.length : Int) = x.n
        · rw [if_pos e]; by_cases hr : x.running && (x.latched == 0)
          · simp only [V.take, hr, if_true]
          · simp only [V.take, hr]; rfl
        · rw [if_neg e]
      rw [if_neg k5]
def LatchRel (W : World) (v g len : Nat) (a f i : Value) (w : World) : Prop :=
  ∃ (k o : Nat) (x : V), k ≤ len ∧ i = .int .i64 k ∧ a = .int .i64 x.latched ∧ f = .bool x.fresh ∧ IsV w v g o x ∧ x.ok ∧ x.shut ∧ x.n = 3 ∧ W.heap.size ≤ o ∧ Kept [] W w
set_option maxRecDepth 100000 in
set_option maxHeartbeats 3200000 in
theorem PassiveLatch_law (x : Option Addr) (len cap : Nat) (w : World) (hf : ∃ n, Fits Try.prog w n 38 [.slice x len cap]) :
    Calls Try.prog 5 #[.slice x len cap] w fun e w' => e = .returned (.bool true) ∧ Below w.heap.size w w' := by
  obtain ⟨m, hf⟩ := hf
  obtain ⟨hm, hp⟩ := op_at hf
  unfold maxLen at hm
  have P' := Lib.hid hp
  clear hp hf
  go_enter Try.func5, Try.ntmps5
  go_wp2_with fail
  refine (awake_call _).mono ?_
  rintro e w0 ⟨rfl, k0⟩
  go_wp2_with fail
  refine (ValveC.new_call 3 (by decide) (by decide) _).mono ?_
  rintro e w1 ⟨v, g, o, rfl, k1, hv, sv, sg, so⟩
  have K1 := k0.trans k1
  have z0 := k0.size
  have hok : (V.new 3).ok := ⟨fun _ => rfl, by decide, by decide⟩
  have hsh : (V.new 3).shut := fun h => absurd rfl h
  have ho : w.heap.size ≤ v ∧ w.heap.size ≤ g := by omega
  have hoo : w.heap.size ≤ o := by omega
  have B' := Lib.hid hv
  have K' := Lib.hid K1
  have O' := Lib.hid hok
  have S' := Lib.hid hsh
  clear hv K1 k0 k1 hok hsh sv sg so z0
  go_wp2_with fail
  go_loopw [5, 6, 7] (LatchRel w v g len) (fun _ _ i _ => len - (intOf i).toNat)
  case atStart => exact ⟨0, o, V.new 3, Nat.zero_le _, rfl, rfl, rfl, B'.out, O'.out, S'.out, rfl, hoo, K'.out⟩
  case round =>
    clear B' K' O' S' hoo o
    obtain ⟨k, o, x0, hk, rfl, rfl, rfl, hb, hx, hsh, hn3, hoo, hK⟩ := hrel
    rename_i wr
    rcases Nat.lt_or_ge k len with hlt | hge
    · obtain ⟨bs, off, rfl, hel⟩ := P'.out.resolve_left (by omega)
      obtain ⟨kd, c, on, s, l, hop⟩ := hel k hlt
      clear hel
      have OP := Lib.hid hop
      obtain ⟨sp, sc, rfl⟩ := bytes_len hop.bytes
      have hbs := hop.block
      have q0 : wr.cell? ⟨bs, off + k * 4, none⟩ = some (.int .i64 kd) := hop.cell hK 0 (by decide)
      have q1 : wr.cell? ⟨bs, off + k * 4 + 1, none⟩ = some (.int .i64 c) := hop.cell hK 1 (by decide)
      have q2 : wr.cell? ⟨bs, off + k * 4 + 2, none⟩ = some (.bool on) := hop.cell hK 2 (by decide)
      have q3 : wr.cell? ⟨bs, off + k * 4 + 3, none⟩ = some (.slice sp l.length sc) := hop.cell hK 3 (by decide)
      have K := Lib.hid hK
      have hbw : bs < wr.heap.size := by have := hK.size; omega
      clear hK hop
      go_wp2_with fail
      have hO := Has.new wr 45 [.int .i64 kd, .int .i64 c, .bool on, .slice sp l.length sc]
      have k2 := (Kept.refl [] wr).alloc (.cells #[.int .i64 kd, .int .i64 c, .bool on, .slice sp l.length sc] 45)
      have hb2 := hb.kept k2 (by simp)
      have K2 := K.out.trans k2
      have R := OP.out.ready1 K2 hb2 hx ⟨ho.1, ho.2, hoo⟩
      have hO : Has (wr.alloc (.cells #[.int .i64 kd, .int .i64 c, .bool on, .slice sp l.length sc] 45)) wr.heap.size 45 [.int .i64 kd, .int .i64 c, .bool on, .slice sp l.length sc] := hO
      have hvl := IsV.lt hb
      have K2' := Lib.hid K2
      clear k2 hb2 K2 hb K q0 q1 q2 q3 OP
      generalize wr.alloc (.cells #[.int .i64 kd, .int .i64 c, .bool on, .slice sp l.length sc] 45) = w2 at *
      have hbx : wr.heap.size ≠ v ∧ wr.heap.size ≠ g ∧ wr.heap.size ≠ o := by omega
      have hz2 : w.heap.size ≤ w2.heap.size := K2'.out.size
      generalize wr.heap.size = B at *
      obtain ⟨rs, hrs⟩ : ∃ rs, x0.res kd l = rs := ⟨_, rfl⟩
      have CC := call_call v g o x0 kd c on _ l _ _ R
      rw [hrs] at CC
      have C' := Lib.hid CC
      have st := latch_step x0 hx kd c on l
      have hx1 := V_ok_step hx kd c on l
      have hsh1 := V_shut_step hsh kd c on l
      rw [hrs] at st
      have ST := Lib.hid st
      have X1 := Lib.hid hx1
      have SH := Lib.hid hsh1
      have HX := Lib.hid hx
      clear CC R st hx1 hsh1 hrs hsh
      refine C'.out.mono ?_
      rintro e w3 ⟨rfl, k3, o', ho', h3⟩
      have K3 := Lib.hid (K2'.out.fresh k3 (by intro i hi hl; simp at hi; omega))
      have hO3 := k3.has hO (by simp; omega)
      have y0 := hO3.cell 0 (v := .int .i64 kd) rfl
      have y1 := hO3.cell 1 (v := .int .i64 c) rfl
      clear K2' k3 hO C'
      obtain ⟨is, his⟩ : ∃ is, (x0.step kd c on l).latched = is := ⟨_, rfl⟩
      have LC := latched_call v g o' _ _ h3
      rw [his] at LC
      have L' := Lib.hid LC
      clear LC
      go_wp2_with fail
      refine L'.out.mono ?_
      rintro e w4 ⟨rfl, rfl⟩
      have hn1 : (x0.step kd c on l).n = 3 := X1.out.2.trans hn3
      have OC := output_call v g o' _ _ h3 (by rw [hn1]; decide) (by rw [hn1]; decide)
      by_cases hi0 : is = 0
      · have e0 : (is != 0) = false := by simp [hi0]
        have OC' := Lib.hid OC
        clear OC
        have HI := Lib.hid hi0
        clear hi0
        rcases ST.out with ⟨e1, hc, hlt, hfr⟩ | ⟨e6, hr, hw, hf0, hlt, hfr⟩ | ⟨e3, hlt, hfr⟩ | ⟨n1, n6, n3, hlt, hfr⟩
        · subst e1
          have ec : (c != 0) = true := by simp [hc]
          rw [his] at hlt
          by_cases hw : x0.latched = 0
          · have ei : (is != c) = false := by simp [hlt, hw]
            have ew : (x0.latched == 0) = true := by simp [hw]
            have ew2 : (x0.latched != 0) = false := by simp [hw]
            have HF := Lib.hid hfr
            clear hw hc hlt hfr ST HX
            go_wp2_with fail
            refine OC'.out.mono ?_
            rintro e w5 ⟨s5, rfl, k5, b5, hb5, o5⟩
            have h5 := h3.kept k5 (by simp)
            have K5 := Lib.hid (K3.out.trans k5)
            clear y0 y1 K3 k5 o5 hb5 h3 hO3
            go_wp2_with fail
            go_roundw
            case rel => exact ⟨k + 1, o', _, by omega, by go_num, by rw [his], by rw [HF.out], h5, X1.out.1, SH.out, hn1, by omega, K5.out⟩
            case measure => simp [intOf]; omega
          · have ei : (is != x0.latched) = false := by simp [hlt, hw]
            have ew : (x0.latched == 0) = false := by simp [hw]
            have ew2 : (x0.latched != 0) = true := by simp [hw]
            have HF := Lib.hid hfr
            clear hw hc hlt hfr ST HX
            go_wp2_with fail
            refine OC'.out.mono ?_
            rintro e w5 ⟨s5, rfl, k5, b5, hb5, o5⟩
            have h5 := h3.kept k5 (by simp)
            have K5 := Lib.hid (K3.out.trans k5)
            clear y0 y1 K3 k5 o5 hb5 h3 hO3
            go_wp2_with fail
            go_roundw
            case rel => exact ⟨k + 1, o', _, by omega, by go_num, by rw [his], by rw [HF.out], h5, X1.out.1, SH.out, hn1, by omega, K5.out⟩
            case measure => simp [intOf]; omega
        · subst e6
          have er : (rs == 0) = true := by simp [hr]
          have ew : (x0.latched == 0) = false := by simp [hw]
          have ef : (!x0.fresh) = false := by simp [hf0]
          have HF := Lib.hid hfr
          clear hw hr hf0 hlt hfr ST HX
          go_wp2_with fail
          refine OC'.out.mono ?_
          rintro e w5 ⟨s5, rfl, k5, b5, hb5, o5⟩
          have h5 := h3.kept k5 (by simp)
          have K5 := Lib.hid (K3.out.trans k5)
          clear y0 y1 K3 k5 o5 hb5 h3 hO3
          go_wp2_with fail
          go_roundw
          case rel => exact ⟨k + 1, o', _, by omega, by go_num, by rw [his], by rw [HF.out], h5, X1.out.1, SH.out, hn1, by omega, K5.out⟩
          case measure => simp [intOf]; omega
        · subst e3
          rw [his] at hlt
          have ei : (is != x0.latched) = false := by simp [hlt]
          have HF := Lib.hid hfr
          have HL := Lib.hid hlt
          clear hlt hfr ST
          go_wp2_with fail
          refine OC'.out.mono ?_
          rintro e w5 ⟨s5, rfl, k5, b5, hb5, o5⟩
          have h5 := h3.kept k5 (by simp)
          have K5 := Lib.hid (K3.out.trans k5)
          clear y0 y1 K3 k5 o5 hb5 h3 hO3
          go_wp2_with fail
          go_roundw
          case rel => exact ⟨k + 1, o', _, by omega, by go_num, by rw [his], by rw [HF.out, HX.out.1 (HL.out.symm.trans HI.out)]; simp [HL.out.symm.trans HI.out], h5, X1.out.1, SH.out, hn1, by omega, K5.out⟩
          case measure => simp [intOf]; omega
        · rw [his] at hlt
          have ei : (is != x0.latched) = false := by simp [hlt]
          have e3 : (kd == 3) = false := by simp [n3]
          have HF := Lib.hid hfr
          have N6 := Lib.hid n6
          clear hlt hfr ST n3 HX n6
          by_cases a1 : kd = 1
          · have ec : (c != 0) = false := by simpa [a1] using n1
            subst a1
            clear n1
            go_wp2_with fail
            refine OC'.out.mono ?_
            rintro e w5 ⟨s5, rfl, k5, b5, hb5, o5⟩
            have h5 := h3.kept k5 (by simp)
            have K5 := Lib.hid (K3.out.trans k5)
            clear y0 y1 K3 k5 o5 hb5 h3 hO3
            go_wp2_with fail
            go_roundw
            case rel => exact ⟨k + 1, o', _, by omega, by go_num, by rw [his], by rw [HF.out], h5, X1.out.1, SH.out, hn1, by omega, K5.out⟩
            case measure => simp [intOf]; omega
          · have e1 : (kd == 1) = false := by simp [a1]
            clear n1 a1
            by_cases a6 : kd = 6
            · have er : (rs == 0) = false := by simpa [a6] using N6.out
              subst a6
              go_wp2_with fail
              refine OC'.out.mono ?_
              rintro e w5 ⟨s5, rfl, k5, b5, hb5, o5⟩
              have h5 := h3.kept k5 (by simp)
              have K5 := Lib.hid (K3.out.trans k5)
              clear y0 y1 K3 k5 o5 hb5 h3 hO3
              go_wp2_with fail
              go_roundw
              case rel => exact ⟨k + 1, o', _, by omega, by go_num, by rw [his], by rw [HF.out], h5, X1.out.1, SH.out, hn1, by omega, K5.out⟩
              case measure => simp [intOf]; omega
            · have e6 : (kd == 6) = false := by simp [a6]
              clear a6
              go_wp2_with fail
              refine OC'.out.mono ?_
              rintro e w5 ⟨s5, rfl, k5, b5, hb5, o5⟩
              have h5 := h3.kept k5 (by simp)
              have K5 := Lib.hid (K3.out.trans k5)
              clear y0 y1 K3 k5 o5 hb5 h3 hO3
              go_wp2_with fail
              go_roundw
              case rel => exact ⟨k + 1, o', _, by omega, by go_num, by rw [his], by rw [HF.out], h5, X1.out.1, SH.out, hn1, by omega, K5.out⟩
              case measure => simp [intOf]; omega
      · have e0 : (is != 0) = true := by simp [hi0]
        have hon : (x0.step kd c on l).on = false := V_on_shut SH.out (by rw [his]; exact hi0)
        have hout : (x0.step kd c on l).out = [0, 0, 0] := by simp [V.out, hon, hn1, List.replicate]
        rw [hon, hout] at OC
        have OC' := Lib.hid OC
        clear OC hon hout
        have HI := Lib.hid hi0
        clear hi0
        rcases ST.out with ⟨e1, hc, hlt, hfr⟩ | ⟨e6, hr, hw, hf0, hlt, hfr⟩ | ⟨e3, hlt, hfr⟩ | ⟨n1, n6, n3, hlt, hfr⟩
        · subst e1
          have ec : (c != 0) = true := by simp [hc]
          rw [his] at hlt
          by_cases hw : x0.latched = 0
          · have ei : (is != c) = false := by simp [hlt, hw]
            have ew : (x0.latched == 0) = true := by simp [hw]
            have ew2 : (x0.latched != 0) = false := by simp [hw]
            have HF := Lib.hid hfr
            clear hw hc hlt hfr ST HX
            go_wp2_with fail
            refine OC'.out.mono ?_
            rintro e w5 ⟨s5, rfl, k5, b5, hb5, o5⟩
            have h5 := h3.kept k5 (by simp)
            have K5 := Lib.hid (K3.out.trans k5)
            have q5 := o5.bytes.str
            have hq1 : ((strOfNums [0, 0, 0]).toList != [0, 0, 0]) = false := by rw [ByteArray.toList_eq]; rfl
            have hq2 : (!((strOfNums [0, 0, 0]).toList == [0, 0, 0])) = false := by rw [ByteArray.toList_eq]; rfl
            clear y0 y1 K3 k5 o5 hb5 h3 hO3
            go_wp2_with fail
            go_roundw
            case rel => exact ⟨k + 1, o', _, by omega, by go_num, by rw [his], by rw [HF.out], h5, X1.out.1, SH.out, hn1, by omega, K5.out⟩
            case measure => simp [intOf]; omega
          · have ei : (is != x0.latched) = false := by simp [hlt, hw]
            have ew : (x0.latched == 0) = false := by simp [hw]
            have ew2 : (x0.latched != 0) = true := by simp [hw]
            have HF := Lib.hid hfr
            clear hw hc hlt hfr ST HX
            go_wp2_with fail
            refine OC'.out.mono ?_
            rintro e w5 ⟨s5, rfl, k5, b5, hb5, o5⟩
            have h5 := h3.kept k5 (by simp)
            have K5 := Lib.hid (K3.out.trans k5)
            have q5 := o5.bytes.str
            have hq1 : ((strOfNums [0, 0, 0]).toList != [0, 0, 0]) = false := by rw [ByteArray.toList_eq]; rfl
            have hq2 : (!((strOfNums [0, 0, 0]).toList == [0, 0, 0])) = false := by rw [ByteArray.toList_eq]; rfl
            clear y0 y1 K3 k5 o5 hb5 h3 hO3
            go_wp2_with fail
            go_roundw
            case rel => exact ⟨k + 1, o', _, by omega, by go_num, by rw [his], by rw [HF.out], h5, X1.out.1, SH.out, hn1, by omega, K5.out⟩
            case measure => simp [intOf]; omega
        · rw [his] at hlt
          exact absurd hlt HI.out
        · subst e3
          rw [his] at hlt
          have ei : (is != x0.latched) = false := by simp [hlt]
          have HF := Lib.hid hfr
          have HL := Lib.hid hlt
          clear hlt hfr ST
          go_wp2_with fail
          refine OC'.out.mono ?_
          rintro e w5 ⟨s5, rfl, k5, b5, hb5, o5⟩
          have h5 := h3.kept k5 (by simp)
          have K5 := Lib.hid (K3.out.trans k5)
          have q5 := o5.bytes.str
          have hq1 : ((strOfNums [0, 0, 0]).toList != [0, 0, 0]) = false := by rw [ByteArray.toList_eq]; rfl
          have hq2 : (!((strOfNums [0, 0, 0]).toList == [0, 0, 0])) = false := by rw [ByteArray.toList_eq]; rfl
          clear y0 y1 K3 k5 o5 hb5 h3 hO3
          go_wp2_with fail
          go_roundw
          case rel => exact ⟨k + 1, o', _, by omega, by go_num, by rw [his], by rw [HF.out]; simp [show x0.latched ≠ 0 from fun h => HI.out (HL.out.trans h)], h5, X1.out.1, SH.out, hn1, by omega, K5.out⟩
          case measure => simp [intOf]; omega
        · rw [his] at hlt
          have ei : (is != x0.latched) = false := by simp [hlt]
          have e3 : (kd == 3) = false := by simp [n3]
          have HF := Lib.hid hfr
          have N6 := Lib.hid n6
          clear hlt hfr ST n3 HX n6
          by_cases a1 : kd = 1
          · have ec : (c != 0) = false := by simpa [a1] using n1
            subst a1
            clear n1
            go_wp2_with fail
            refine OC'.out.mono ?_
            rintro e w5 ⟨s5, rfl, k5, b5, hb5, o5⟩
            have h5 := h3.kept k5 (by simp)
            have K5 := Lib.hid (K3.out.trans k5)
            have q5 := o5.bytes.str
            have hq1 : ((strOfNums [0, 0, 0]).toList != [0, 0, 0]) = false := by rw [ByteArray.toList_eq]; rfl
            have hq2 : (!((strOfNums [0, 0, 0]).toList == [0, 0, 0])) = false := by rw [ByteArray.toList_eq]; rfl
            clear y0 y1 K3 k5 o5 hb5 h3 hO3
            go_wp2_with fail
            go_roundw
            case rel => exact ⟨k + 1, o', _, by omega, by go_num, by rw [his], by rw [HF.out], h5, X1.out.1, SH.out, hn1, by omega, K5.out⟩
            case measure => simp [intOf]; omega
          · have e1 : (kd == 1) = false := by simp [a1]
            clear n1 a1
            by_cases a6 : kd = 6
            · have er : (rs == 0) = false := by simpa [a6] using N6.out
              subst a6
              go_wp2_with fail
              refine OC'.out.mono ?_
              rintro e w5 ⟨s5, rfl, k5, b5, hb5, o5⟩
              have h5 := h3.kept k5 (by simp)
              have K5 := Lib.hid (K3.out.trans k5)
              have q5 := o5.bytes.str
              have hq1 : ((strOfNums [0, 0, 0]).toList != [0, 0, 0]) = false := by rw [ByteArray.toList_eq]; rfl
              have hq2 : (!((strOfNums [0, 0, 0]).toList == [0, 0, 0])) = false := by rw [ByteArray.toList_eq]; rfl
              clear y0 y1 K3 k5 o5 hb5 h3 hO3
              go_wp2_with fail
              go_roundw
              case rel => exact ⟨k + 1, o', _, by omega, by go_num, by rw [his], by rw [HF.out], h5, X1.out.1, SH.out, hn1, by omega, K5.out⟩
              case measure => simp [intOf]; omega
            · have e6 : (kd == 6) = false := by simp [a6]
              clear a6
              go_wp2_with fail
              refine OC'.out.mono ?_
              rintro e w5 ⟨s5, rfl, k5, b5, hb5, o5⟩
              have h5 := h3.kept k5 (by simp)
              have K5 := Lib.hid (K3.out.trans k5)
              have q5 := o5.bytes.str
              have hq1 : ((strOfNums [0, 0, 0]).toList != [0, 0, 0]) = false := by rw [ByteArray.toList_eq]; rfl
              have hq2 : (!((strOfNums [0, 0, 0]).toList == [0, 0, 0])) = false := by rw [ByteArray.toList_eq]; rfl
              clear y0 y1 K3 k5 o5 hb5 h3 hO3
              go_wp2_with fail
              go_roundw
              case rel => exact ⟨k + 1, o', _, by omega, by go_num, by rw [his], by rw [HF.out], h5, X1.out.1, SH.out, hn1, by omega, K5.out⟩
              case measure => simp [intOf]; omega
    · go_wp2_with fail
      go_ret
      exact ⟨rfl, hK.toBelow (by simp)⟩
end Go.Proofs.Ytlafkeijikbenab.S11
