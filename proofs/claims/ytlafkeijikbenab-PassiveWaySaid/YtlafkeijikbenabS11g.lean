/- Layer 11: the law PassiveWay. -/
import Derived.Test.YtlafkeijikbenabS11e
namespace Go.Proofs.Ytlafkeijikbenab.S11
open Go Go.RowKit Go.Proofs.Ytlafkeijikbenab.Hp Go.Proofs.Ytlafkeijikbenab.GateC Go.Proofs.Ytlafkeijikbenab.Sl Go.Proofs.Ytlafkeijikbenab.ValveC Go.Proofs.Ytlafkeijikbenab.ValveR Go.Proofs.Ytlafkeijikbenab.Fit
set_option linter.unusedVariables false
set_option linter.unusedSimpArgs false
def WayRel (W : World) (v g len : Nat) (i : Value) (w : World) : Prop :=
  ∃ (k o : Nat) (x : V), k ≤ len ∧ i = .int .i64 k ∧ IsV w v g o x ∧ x.ok ∧ x.n = 3 ∧ W.heap.size ≤ o ∧ Kept [] W w
set_option maxRecDepth 100000 in
set_option maxHeartbeats 3200000 in
theorem PassiveWay_skip (x : Option Addr) (len cap : Nat) (c : Int) (s : Value) (l : List Int) (w : World) (hb : Bytes w s l) (hc : c = 0 ∨ l.length ≠ 3) :
    Calls Try.prog 6 #[.slice x len cap, .int .i64 c, s] w fun e w' => e = .returned (.bool true) ∧ Below w.heap.size w w' := by
  obtain ⟨sp, sc, rfl⟩ := bytes_len hb
  by_cases h0 : c = 0
  · subst h0
    clear hb hc
    go_enter Try.func6, Try.ntmps6
    go_wp2_with fail
    refine (awake_call _).mono ?_
    rintro e w0 ⟨rfl, k0⟩
    go_wp2_with fail
    go_ret
    exact ⟨rfl, k0.toBelow (by simp)⟩
  · have e0 : (c == 0) = false := by simp [h0]
    have h3 : l.length ≠ 3 := by rcases hc with h | h; exact absurd h h0; exact h
    have e3 : ((l.length : Int) != 3) = true := by simp; omega
    clear hb hc h0 h3
    go_enter Try.func6, Try.ntmps6
    go_wp2_with fail
    refine (awake_call _).mono ?_
    rintro e w0 ⟨rfl, k0⟩
    go_wp2_with fail
    go_ret
    exact ⟨rfl, k0.toBelow (by simp)⟩
set_option maxRecDepth 100000 in
set_option maxHeartbeats 3200000 in
theorem PassiveWay_walk (x : Option Addr) (len cap : Nat) (c : Int) (s : Value) (l : List Int) (w : World) (hf : ∃ n, Fits Try.prog w n 38 [.slice x len cap]) (hb : Bytes w s l) (hc : c ≠ 0) (hl3 : l.length = 3) :
    Calls Try.prog 6 #[.slice x len cap, .int .i64 c, s] w fun e w' => e = .returned (.bool true) ∧ Below w.heap.size w w' := by
  obtain ⟨m, hf⟩ := hf
  obtain ⟨hm, hp⟩ := op_at hf
  unfold maxLen at hm
  have P' := Lib.hid hp
  have SB := Lib.hid hb
  obtain ⟨sp, sc, rfl⟩ := bytes_len hb
  have e0 : (c == 0) = false := by simp [hc]
  have e3 : ((l.length : Int) != 3) = false := by simp; omega
  have L3 := Lib.hid hl3
  have C0 := Lib.hid hc
  clear hp hf hb hl3 hc
  go_enter Try.func6, Try.ntmps6
  go_wp2_with fail
  refine (awake_call _).mono ?_
  rintro e w0 ⟨rfl, k0⟩
  go_wp2_with fail
  refine (ValveC.new_call 3 (by decide) (by decide) _).mono ?_
  rintro e w1 ⟨v, g, o, rfl, k1, hv, sv, sg, so⟩
  have K1 := k0.trans k1
  have z0 := k0.size
  have hok : (V.new 3).ok := ⟨fun _ => rfl, by decide, by decide⟩
  have ho : w.heap.size ≤ v ∧ w.heap.size ≤ g := by omega
  have hoo : w.heap.size ≤ o := by omega
  have B' := Lib.hid hv
  have K' := Lib.hid K1
  have O' := Lib.hid hok
  clear hv K1 k0 k1 hok sv sg so z0
  go_wp2_with fail
  go_loopw [9] (WayRel w v g len) (fun i _ => len - (intOf i).toNat)
  case atStart => exact ⟨0, o, V.new 3, Nat.zero_le _, rfl, B'.out, O'.out, rfl, hoo, K'.out⟩
  case round =>
    clear B' K' O' hoo o
    obtain ⟨k, o, x0, hk, rfl, hb, hx, hn3, hoo, hK⟩ := hrel
    rename_i wr
    rcases Nat.lt_or_ge k len with hlt | hge
    · obtain ⟨bs, off, rfl, hel⟩ := P'.out.resolve_left (by omega)
      obtain ⟨kd, c1, on, s1, l1, hop⟩ := hel k hlt
      clear hel
      have OP := Lib.hid hop
      obtain ⟨sp1, sc1, rfl⟩ := bytes_len hop.bytes
      have hbs := hop.block
      have q0 : wr.cell? ⟨bs, off + k * 4, none⟩ = some (.int .i64 kd) := hop.cell hK 0 (by decide)
      have q1 : wr.cell? ⟨bs, off + k * 4 + 1, none⟩ = some (.int .i64 c1) := hop.cell hK 1 (by decide)
      have q2 : wr.cell? ⟨bs, off + k * 4 + 2, none⟩ = some (.bool on) := hop.cell hK 2 (by decide)
      have q3 : wr.cell? ⟨bs, off + k * 4 + 3, none⟩ = some (.slice sp1 l1.length sc1) := hop.cell hK 3 (by decide)
      have R := Lib.hid (call_call v g o x0 kd c1 on _ l1 _ _ (hop.ready1 hK hb hx ⟨ho.1, ho.2, hoo⟩))
      have K := Lib.hid hK
      have hx1 := V_ok_step hx kd c1 on l1
      have X1 := Lib.hid hx1
      have hz := hK.size
      clear hK hop hx1 hx hb
      go_wp2_with fail
      refine R.out.mono ?_
      rintro e w3 ⟨rfl, k3, o', ho', h3⟩
      have K3 := Lib.hid (K.out.fresh k3 (by intro i hi hl; simp at hi; omega))
      clear q0 q1 q2 q3 R K k3 OP
      go_wp2_with fail
      go_roundw
      case rel => exact ⟨k + 1, o', _, by omega, by go_num, h3, X1.out.1, X1.out.2.trans hn3, by omega, K3.out⟩
      case measure => simp [intOf]; omega
    · have K := Lib.hid hK
      have hlt : ¬ (k < len) := by omega
      have hc := C0.out
      clear hK P'
      go_wp2_with fail
      refine (ValveC.run_call v g o x0 true _ hb).mono ?_
      rintro e w2 ⟨rfl, k2, h2⟩
      go_wp2_with fail
      refine (ValveC.hold_call v g o _ false _ h2).mono ?_
      rintro e w3 ⟨rfl, k3, h3⟩
      go_wp2_with fail
      refine (ValveC.trip_call v g o _ c _ h3).mono ?_
      rintro e w4 ⟨rfl, k4, h4⟩
      have K4 := Lib.hid (K.out.fresh (((k2.mono (S' := [v, g, o]) (by simp)).trans (k3.mono (by simp))).trans k4) (by intro i hi hl; simp at hi; omega))
      -- the valve behind a fault
      obtain ⟨y, hy⟩ : ∃ y, (((x0.run true).holds false).trip c) = y := ⟨_, rfl⟩
      have hyv : y.running = true ∧ y.fresh = false ∧ y.hold = false ∧ y.latched ≠ 0 ∧ y.value = none ∧ y.n = 3 := by
        subst hy
        have hr : (x0.run true).running = true := by unfold V.run; split; assumption; rfl
        have hn : (x0.run true).n = 3 := by unfold V.run; split <;> exact hn3
        refine ⟨?_, ?_, ?_, ?_, ?_, ?_⟩ <;> simp [V.trip, hc, V.holds, hr, hn]
        split <;> simp_all
      rw [hy] at h4
      clear h2 h3 k2 k3 k4 hy K hb
      obtain ⟨y1, y2, y3, y4, y5, y6⟩ := hyv
      have er1 : y.request = false := by simp [V.request, y2]
      have RQ := request_call v g o y _ h4
      have AK := ack_call v g o y _ h4
      have ea : y.ack = y := by simp [V.ack, er1]
      rw [er1] at RQ
      rw [ea, er1] at AK
      have RQ' := Lib.hid RQ
      have AK' := Lib.hid (show Calls Try.prog 28 #[.pointer (some ⟨v, 0, none⟩)] w4 fun e w' => e = .returned (.int .i64 110) ∧ Kept [v, g, o] w4 w' ∧ Acked w4 w' v g o y from AK)
      clear RQ AK
      have Y := Lib.hid (⟨y1, y2, y3, y4, y5, y6⟩ : y.running = true ∧ y.fresh = false ∧ y.hold = false ∧ y.latched ≠ 0 ∧ y.value = none ∧ y.n = 3)
      clear y1 y2 y3 y4 y5 y6 ea er1
      go_wp2_with fail
      refine RQ'.out.mono ?_
      rintro e w5 ⟨rfl, rfl⟩
      go_wp2_with fail
      refine AK'.out.mono ?_
      rintro e w5 ⟨rfl, k5, o5, ho5, h5⟩
      have z4 := K4.out.size
      have K5 := Lib.hid (K4.out.fresh k5 (by intro i hi hl; simp at hi; omega))
      clear k5 AK' RQ' h4 K4
      have hoo5 : w.heap.size ≤ o5 := by omega
      go_wp2_with fail
      refine (fresh_call v g o5 _ _ h5).mono ?_
      rintro e w6 ⟨rfl, k6, h6⟩
      have K6 := Lib.hid (K5.out.fresh k6 (by intro i hi hl; simp at hi; omega))
      have er2 : y.come.request = true := by obtain ⟨y1, y2, y3, y4, y5, y6⟩ := Y.out; simp [V.request, V.come, y1, y4]
      have RQ := request_call v g o5 y.come _ h6
      have AK := ack_call v g o5 y.come _ h6
      obtain ⟨z, hz⟩ : ∃ z, y.come.ack = z := ⟨_, rfl⟩
      have hzv : z.running = true ∧ z.hold = false ∧ z.latched = 0 ∧ z.value = none ∧ z.n = 3 := by
        obtain ⟨y1, y2, y3, y4, y5, y6⟩ := Y.out
        have hz2 : z = { y.come with latched := 0, fresh := false } := by rw [← hz]; unfold V.ack; rw [if_pos er2]
        rw [hz2]
        exact ⟨y1, y3, rfl, y5, y6⟩
      rw [er2] at RQ
      rw [hz, er2] at AK
      have RQ' := Lib.hid RQ
      have AK' := Lib.hid (show Calls Try.prog 28 #[.pointer (some ⟨v, 0, none⟩)] w6 fun e w' => e = .returned (.int .i64 0) ∧ Kept [v, g, o5] w6 w' ∧ Acked w6 w' v g o5 z from AK)
      have Z := Lib.hid hzv
      clear RQ AK k6 K5 h5 hz hzv er2
      go_wp2_with fail
      refine RQ'.out.mono ?_
      rintro e w7 ⟨rfl, rfl⟩
      go_wp2_with fail
      refine AK'.out.mono ?_
      rintro e w7 ⟨rfl, k7, o7, ho7, h7⟩
      have z6 := K6.out.size
      have K7 := Lib.hid (K6.out.fresh k7 (by intro i hi hl; simp at hi; omega))
      clear k7 AK' RQ' h6 K6
      have hoo7 : w.heap.size ≤ o7 := by omega
      have LC := latched_call v g o7 z _ h7
      rw [Z.out.2.2.1] at LC
      have LC' := Lib.hid LC
      clear LC
      go_wp2_with fail
      refine LC'.out.mono ?_
      rintro e w8 ⟨rfl, rfl⟩
      have OC := output_call v g o7 z _ h7 (by rw [Z.out.2.2.2.2]; decide) (by rw [Z.out.2.2.2.2]; decide)
      have hon : z.on = false := by simp [V.on, Z.out.2.2.2.1]
      rw [hon] at OC
      have OC' := Lib.hid OC
      clear OC hon LC'
      go_wp2_with fail
      refine OC'.out.mono ?_
      rintro e w8 ⟨s8, rfl, k8, b8, hb8, o8⟩
      have h8 := h7.kept k8 (by simp)
      have K8 := Lib.hid (K7.out.trans k8)
      have hB8 := Lib.hid (SB.out.kept K8.out (by simp))
      clear k8 o8 hb8 OC' h7 K7
      go_wp2_with (at_builtin; refine wpList_app rfl _ _ rfl w8 (.slice sp l.length sc) l _ rfl rfl rfl hB8.out (by have := L3.out; omega) ?_)
      intro s9 w9 k9 g9 hg9 o9
      have h9 := h8.kept k9 (by simp)
      have K9 := Lib.hid (K8.out.trans k9)
      have OB := Lib.hid o9.bytes
      have zn : z.n = (l.length : Int) := by rw [Z.out.2.2.2.2, L3.out]; rfl
      have TK := take_call v g o7 z s9 l _ h9 OB.out zn (by have := L3.out; rintro rfl; simp at this) (by have := L3.out; omega)
      obtain ⟨u, hu⟩ : ∃ u, z.take l = u := ⟨_, rfl⟩
      have huv : u.on = true ∧ u.out = l ∧ u.n = 3 := by
        obtain ⟨y1, y3, y4, y5, y6⟩ := Z.out
        subst hu
        have ht : z.take l = { z with value := some l } := by simp [V.take, y1, y4]
        rw [ht]
        refine ⟨by simp [V.on, y1, y3], by simp [V.out, V.on, y1, y3], y6⟩
      rw [hu] at TK
      have TK' := Lib.hid TK
      have U := Lib.hid huv
      clear TK k9 o9 hg9 h8 K8 hu huv zn hB8
      go_wp2_with fail
      refine TK'.out.mono ?_
      rintro e wa ⟨rfl, ka, ha⟩
      have Ka := Lib.hid (K9.out.fresh ka (by intro i hi hl; simp at hi; omega))
      have OC := output_call v g o7 u _ ha (by rw [U.out.2.2]; decide) (by rw [U.out.2.2]; decide)
      rw [U.out.1, U.out.2.1] at OC
      have OC' := Lib.hid OC
      clear OC TK' ka h9 K9 OB
      go_wp2_with fail
      refine OC'.out.mono ?_
      rintro e wb ⟨sb, rfl, kb, bb, hbb, ob⟩
      have Kb := Lib.hid (Ka.out.trans kb)
      have s1 := ob.bytes.str
      have s2 := (SB.out.kept Kb.out (by simp)).str
      clear kb ob hbb OC' ha Ka
      go_wp2_with fail
      go_ret
      exact ⟨rfl, Kb.out.toBelow (by simp)⟩
theorem PassiveWay_law (x : Option Addr) (len cap : Nat) (c : Int) (y : Option Addr) (len2 cap2 : Nat) (w : World) (hf : ∃ n, Fits Try.prog w n 38 [.slice x len cap]) (_ : (Lit.int .i64 c).wf = true) (hg : ∃ n, Fits Try.prog w n 22 [.slice y len2 cap2]) :
    Calls Try.prog 6 #[.slice x len cap, .int .i64 c, .slice y len2 cap2] w fun e w' => e = .returned (.bool true) ∧ Below w.heap.size w w' := by
  obtain ⟨n, hg⟩ := hg
  obtain ⟨l, rfl, hb, hl, _⟩ := bytes_of_fits hg
  by_cases h : c ≠ 0 ∧ l.length = 3
  · exact PassiveWay_walk x len cap c _ l w hf hb h.1 h.2
  · refine PassiveWay_skip x len cap c _ l w hb ?_
    by_cases h0 : c = 0
    · exact .inl h0
    · exact .inr (fun e => h ⟨h0, e⟩)
end Go.Proofs.Ytlafkeijikbenab.S11
