/- Layer 11: the law PassivePlays. -/
import Derived.Test.YtlafkeijikbenabS11c
namespace Go.Proofs.Ytlafkeijikbenab.S11
open Go Go.RowKit Go.Proofs.Ytlafkeijikbenab.Hp Go.Proofs.Ytlafkeijikbenab.GateC Go.Proofs.Ytlafkeijikbenab.Sl Go.Proofs.Ytlafkeijikbenab.ValveC Go.Proofs.Ytlafkeijikbenab.ValveR Go.Proofs.Ytlafkeijikbenab.Fit
set_option linter.unusedVariables false
set_option linter.unusedSimpArgs false
theorem low_of {w : World} {s : Value} {l : List Int} (h : Bytes w s l) : Below2 s l w.heap.size := by
  intro b off n c e hl
  rcases h with ⟨_, h⟩ | ⟨x, cap, e2, _, _, h3⟩
  · exact absurd h hl
  · rcases h3 with h3 | ⟨b', off', rfl, h3, _⟩
    · exact absurd h3 hl
    · rw [e] at e2; cases e2; exact h3
/-- One call of a script. -/
structure OpAt (W : World) (b off i : Nat) (k c : Int) (on : Bool) (s : Value) (l : List Int) : Prop where
  block : b < W.heap.size
  cells : ∀ j, j < 4 → W.cell? ⟨b, off + i * 4 + j, none⟩ = [Value.int .i64 k, .int .i64 c, .bool on, s][j]?
  bytes : Bytes W s l
  len : l.length ≤ reachBytes
theorem op_at {W : World} {n : Nat} {x : Option Addr} {len cap : Nat} (hf : Fits Try.prog W n 38 [.slice x len cap]) :
    len ≤ maxLen ∧ (len = 0 ∨ ∃ b off, x = some ⟨b, off, none⟩ ∧ ∀ i, i < len → ∃ k c on s l, OpAt W b off i k c on s l) := by
  obtain ⟨_, hm, _, _, hp⟩ := fits_elems Try.underlying38 hf 4 48 (by kernel_rfl) (by kernel_rfl) (by decide)
  refine ⟨hm, ?_⟩
  rcases hp with h | ⟨b, off, rfl, hb, hel⟩
  · exact .inl h
  · refine .inr ⟨b, off, rfl, fun i hi => ?_⟩
    obtain ⟨m, cs, hcl, hcc, hfit⟩ := hel i hi
    obtain ⟨k, c, on, a, l0, c0, rfl, _, _, m2, hf2⟩ := op_cells hfit
    obtain ⟨l, rfl, hb2, hl, _⟩ := bytes_of_fits hf2
    exact ⟨k, c, on, _, l, hb, hcc, hb2, hl⟩
theorem OpAt.cell {W w : World} {b off i : Nat} {k c : Int} {on : Bool} {s : Value} {l : List Int} (h : OpAt W b off i k c on s l) (K : Kept [] W w) (j : Nat) (hj : j < 4) :
    w.cell? ⟨b, off + i * 4 + j, none⟩ = [Value.int .i64 k, .int .i64 c, .bool on, s][j]? := by
  rw [K.cell h.block (by simp), h.cells j hj]
theorem OpAt.ready {W w : World} {b off i v g o r : Nat} {k c : Int} {on : Bool} {s : Value} {l : List Int} {x : V} (h : OpAt W b off i k c on s l) (K : Kept [] W w) (hb : Both w v g o r x) (hx : x.ok) (ho : W.heap.size ≤ v ∧ W.heap.size ≤ g ∧ W.heap.size ≤ o ∧ W.heap.size ≤ r) :
    Ready w v g o r x s l W.heap.size := ⟨hb, hx, Bytes.low h.bytes K (low_of h.bytes) (by simp), low_of h.bytes, ho, by have := h.len; unfold reachBytes at this; omega⟩
def PlayRel (W : World) (v g r len : Nat) (i : Value) (w : World) : Prop :=
  ∃ (k o : Nat) (x : V), k ≤ len ∧ i = .int .i64 k ∧ Both w v g o r x ∧ x.ok ∧ W.heap.size ≤ o ∧ Kept [] W w
set_option maxRecDepth 100000 in
set_option maxHeartbeats 1600000 in
theorem PassivePlays_bad (n : Int) (hn : n < 1 ∨ 8 < n) (x : Option Addr) (len cap : Nat) (w : World) :
    Calls Try.prog 4 #[.int .i64 n, .slice x len cap] w fun e w' => e = .returned (.bool true) ∧ Below w.heap.size w w' := by
  by_cases h1 : n < 1
  · have e1 : decide (n < 1) = true := by simpa using h1
    go_enter Try.func4, Try.ntmps4
    go_wp2_with fail
    refine (awake_call _).mono ?_
    rintro e w0 ⟨rfl, k0⟩
    go_wp2_with fail
    refine (ValveC.new_bad n hn _).mono ?_
    rintro e w1 ⟨rfl, k1⟩
    go_wp2_with fail
    go_ret
    exact ⟨rfl, (k0.trans k1).toBelow (by simp)⟩
  · have e1 : decide (n < 1) = false := by simpa using h1
    have e2 : decide (n > 8) = true := by rcases hn with h | h; omega; simpa using h
    go_enter Try.func4, Try.ntmps4
    go_wp2_with fail
    refine (awake_call _).mono ?_
    rintro e w0 ⟨rfl, k0⟩
    go_wp2_with fail
    refine (ValveC.new_bad n hn _).mono ?_
    rintro e w1 ⟨rfl, k1⟩
    go_wp2_with fail
    go_ret
    exact ⟨rfl, (k0.trans k1).toBelow (by simp)⟩
set_option maxRecDepth 100000 in
set_option maxHeartbeats 1600000 in
theorem PassivePlays_good (n : Int) (h1 : 1 ≤ n) (h8 : n ≤ 8) (x : Option Addr) (len cap : Nat) (w : World) (hf : ∃ n, Fits Try.prog w n 38 [.slice x len cap]) :
    Calls Try.prog 4 #[.int .i64 n, .slice x len cap] w fun e w' => e = .returned (.bool true) ∧ Below w.heap.size w w' := by
  obtain ⟨m, hf⟩ := hf
  obtain ⟨hm, hp⟩ := op_at hf
  unfold maxLen at hm
  have P' := Lib.hid hp
  have e1 : decide (n < 1) = false := by simpa using h1
  have e2 : decide (n > 8) = false := by simpa using h8
  clear hp hf
  go_enter Try.func4, Try.ntmps4
  go_wp2_with fail
  refine (awake_call _).mono ?_
  rintro e w0 ⟨rfl, k0⟩
  go_wp2_with fail
  refine (ValveC.new_call n h1 h8 _).mono ?_
  rintro e w1 ⟨v, g, o, rfl, k1, hv, sv, sg, so⟩
  have K1 := k0.trans k1
  have z0 := k0.size
  have z1 := K1.size
  have hvl := IsV.lt hv
  have hR := Has.new w1 41 [.int .i64 n, .bool false, .bool false, .bool false, .int .i64 0, .slice none 0 0, .bool false]
  have k2 := (Kept.refl [] w1).alloc (.cells #[.int .i64 n, .bool false, .bool false, .bool false, .int .i64 0, .slice none 0 0, .bool false] 41)
  have hv2 := hv.kept k2 (by simp)
  have hB : Both (w1.alloc (.cells #[.int .i64 n, .bool false, .bool false, .bool false, .int .i64 0, .slice none 0 0, .bool false] 41)) v g o w1.heap.size (V.new n) := ⟨hv2, _, hR, rfl⟩
  have K2 := K1.trans k2
  have hok : (V.new n).ok := ⟨fun _ => rfl, h1, h8⟩
  have B' := Lib.hid hB
  have K' := Lib.hid K2
  have O' := Lib.hid hok
  clear hB K2 hv2 k2 hR hv K1 k0 k1 hok
  go_wp2_with fail
  generalize w1.alloc (.cells #[.int .i64 n, .bool false, .bool false, .bool false, .int .i64 0, .slice none 0 0, .bool false] 41) = w2 at *
  generalize hr : w1.heap.size = r at *
  have ho : w.heap.size ≤ v ∧ w.heap.size ≤ g ∧ w.heap.size ≤ r := by omega
  have hoo : w.heap.size ≤ o := by omega
  clear hr sv sg so hvl
  go_loopw [8] (PlayRel w v g r len) (fun i _ => len - (intOf i).toNat)
  case atStart => exact ⟨0, o, V.new n, Nat.zero_le _, rfl, B'.out, O'.out, hoo, K'.out⟩
  case round =>
    clear B' K' O' hoo o
    obtain ⟨k, o, x0, hk, rfl, hb, hx, hoo, hK⟩ := hrel
    rename_i wr
    rcases Nat.lt_or_ge k len with hlt | hge
    · obtain ⟨bs, off, rfl, hel⟩ := P'.out.resolve_left (by omega)
      obtain ⟨kd, c, on, s, l, hop⟩ := hel k hlt
      clear hel
      have K := Lib.hid hK
      have OP := Lib.hid hop
      obtain ⟨sp, sc, rfl⟩ := bytes_len hop.bytes
      have hbs := hop.block
      clear hK hop
      go_wp2_with fail
      refine (shows_call v g o r x0 _ hb hx).mono ?_
      rintro e w3 ⟨rfl, k3⟩
      have hb3 := hb.kept k3
      have K3 := K.out.trans k3
      have q0 : w3.cell? ⟨bs, off + k * 4, none⟩ = some (.int .i64 kd) := OP.out.cell K3 0 (by decide)
      have q1 : w3.cell? ⟨bs, off + k * 4 + 1, none⟩ = some (.int .i64 c) := OP.out.cell K3 1 (by decide)
      have q2 : w3.cell? ⟨bs, off + k * 4 + 2, none⟩ = some (.bool on) := OP.out.cell K3 2 (by decide)
      have q3 : w3.cell? ⟨bs, off + k * 4 + 3, none⟩ = some (.slice sp l.length sc) := OP.out.cell K3 3 (by decide)
      have R := OP.out.ready K3 hb3 hx ⟨ho.1, ho.2.1, hoo, ho.2.2⟩
      have K3' := Lib.hid K3
      have z3 := K3.size
      clear K hb k3 K3
      go_wp2_with fail
      refine (step_call v g o r x0 kd c on _ l _ _ R).mono ?_
      rintro e w4 ⟨rfl, k4, o', ho', hb4⟩
      have hx4 := (V_ok_step hx kd c on l).1
      have K4 := Lib.hid (K3'.out.fresh k4 (by intro i hi hl; simp at hi; omega))
      clear q0 q1 q2 q3 R K3' k4 hx OP hb3
      go_wp2_with fail
      go_roundw
      case rel => exact ⟨k + 1, o', _, by omega, by go_num, hb4, hx4, by omega, K4.out⟩
      case measure => simp [intOf]; omega
    · go_wp2_with fail
      refine (shows_call v g o r x0 _ hb hx).mono ?_
      rintro e w3 ⟨rfl, k3⟩
      go_wp2_with fail
      go_ret
      exact ⟨rfl, (hK.trans k3).toBelow (by simp)⟩
theorem PassivePlays_law (n : Int) (x : Option Addr) (len cap : Nat) (w : World) (_ : (Lit.int .i64 n).wf = true) (hf : ∃ n, Fits Try.prog w n 38 [.slice x len cap]) :
    Calls Try.prog 4 #[.int .i64 n, .slice x len cap] w fun e w' => e = .returned (.bool true) ∧ Below w.heap.size w w' := by
  by_cases h : 1 ≤ n ∧ n ≤ 8
  · exact PassivePlays_good n h.1 h.2 x len cap w hf
  · exact PassivePlays_bad n (by omega) x len cap w
end Go.Proofs.Ytlafkeijikbenab.S11
