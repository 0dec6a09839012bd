/- Layer 11: call. (Written by wip/gen_11e.py.) -/
import Derived.Test.YtlafkeijikbenabS11d
namespace Go.Proofs.Ytlafkeijikbenab.S11
open Go Go.RowKit Go.Proofs.Ytlafkeijikbenab.Hp Go.Proofs.Ytlafkeijikbenab.GateC Go.Proofs.Ytlafkeijikbenab.Sl Go.Proofs.Ytlafkeijikbenab.ValveC Go.Proofs.Ytlafkeijikbenab.ValveR Go.Proofs.Ytlafkeijikbenab.Fit
set_option linter.unusedVariables false
set_option linter.unusedSimpArgs false
/-- What call gives back. -/
def _root_.Go.Proofs.Ytlafkeijikbenab.ValveC.V.res (x : V) (k : Int) (l : List Int) : Int :=
  if k = 5 then (if (l.length : Int) = x.n then 0 else 45) else if k = 6 then (if x.request then 0 else 110) else 0
/-- What call needs. -/
structure Ready1 (w : World) (v g o : Nat) (x : V) (s : Value) (l : List Int) (B : Nat) : Prop where
  is : IsV w v g o x
  ok : x.ok
  bytes : Bytes w s l
  low : Below2 s l B
  own : B ≤ v ∧ B ≤ g ∧ B ≤ o
  len : l.length ≤ 140737488351232
set_option maxRecDepth 100000 in
set_option maxHeartbeats 1600000 in
theorem call_call (v g o : Nat) (x : V) (k c : Int) (on : Bool) (s : Value) (l : List Int) (B : Nat) (w : World) (h : Ready1 w v g o x s l B) :
    Calls Try.prog 23 #[.pointer (some ⟨v, 0, none⟩), .agg #[.int .i64 k, .int .i64 c, .bool on, s]] w fun e w' => e = .returned (.int .i64 (x.res k l)) ∧ Kept [v, g, o] w w' ∧ Acked w w' v g o (x.step k c on l) := by
  obtain ⟨hb, hx, hs, hlow, hown, hlen⟩ := h
  have hlv := IsV.lt hb
  obtain ⟨sp, sc, rfl⟩ := bytes_len hs
  have hO := Has.new w 45 [.int .i64 k, .int .i64 c, .bool on, .slice sp l.length sc]
  have k0 := (Kept.refl [] w).alloc (.cells #[.int .i64 k, .int .i64 c, .bool on, .slice sp l.length sc] 45)
  have hb0 := hb.kept k0 (by simp)
  have hs0 := Bytes.low hs k0 hlow (by simp)
  generalize hy : x.step k c on l = y
  generalize hz : x.res k l = z
  have HY := Lib.hid hy
  have HZ := Lib.hid hz
  clear hb hs hy hz
  go_enter Try.func23, Try.ntmps23
  go_upto_region 1 with (fail)
  have hO : Has (w.alloc (.cells #[.int .i64 k, .int .i64 c, .bool on, .slice sp l.length sc] 45)) w.heap.size 45 [.int .i64 k, .int .i64 c, .bool on, .slice sp l.length sc] := hO
  generalize w.alloc (.cells #[.int .i64 k, .int .i64 c, .bool on, .slice sp l.length sc] 45) = w0 at *
  generalize hbs : w.heap.size = b at *
  have y0 := hO.cell 0 (v := .int .i64 k) rfl
  have y1 := hO.cell 1 (v := .int .i64 c) rfl
  have y2 := hO.cell 2 (v := .bool on) rfl
  have y3 := hO.cell 3 (v := .slice sp l.length sc) rfl
  by_cases k1 : k = 1
  · subst k1
    obtain rfl : y = x.trip c := by rw [← HY.out]; simp [V.step]
    obtain rfl : z = 0 := by rw [← HZ.out]; simp [V.res]
    clear hx hs0 hlow hlen hown y2 y3
    go_wp2_with fail
    refine (ValveC.trip_call v g o x c _ hb0).mono ?_
    rintro e w5 ⟨rfl, k5, h5⟩
    go_wp2_with fail
    go_ret
    exact ⟨rfl, (k0.mono (by simp)).trans k5, o, .inl rfl, h5⟩
  by_cases k2 : k = 2
  · subst k2
    obtain rfl : y = x.run on := by rw [← HY.out]; simp [V.step]
    obtain rfl : z = 0 := by rw [← HZ.out]; simp [V.res]
    clear k1 hx hs0 hlow hlen hown y1 y3
    go_wp2_with fail
    refine (ValveC.run_call v g o x on _ hb0).mono ?_
    rintro e w5 ⟨rfl, k5, h5⟩
    go_wp2_with fail
    go_ret
    exact ⟨rfl, (k0.mono (by simp)).trans (k5.mono (by simp)), o, .inl rfl, h5⟩
  by_cases k3 : k = 3
  · subst k3
    obtain rfl : y = x.come := by rw [← HY.out]; simp [V.step]
    obtain rfl : z = 0 := by rw [← HZ.out]; simp [V.res]
    clear k1 k2 hx hs0 hlow hlen hown y1 y2 y3
    go_wp2_with fail
    refine (ValveC.fresh_call v g o x _ hb0).mono ?_
    rintro e w5 ⟨rfl, k5, h5⟩
    go_wp2_with fail
    go_ret
    exact ⟨rfl, (k0.mono (by simp)).trans (k5.mono (by simp)), o, .inl rfl, h5⟩
  by_cases k4 : k = 4
  · subst k4
    obtain rfl : y = x.holds on := by rw [← HY.out]; simp [V.step]
    obtain rfl : z = 0 := by rw [← HZ.out]; simp [V.res]
    clear k1 k2 k3 hx hs0 hlow hlen hown y1 y3
    go_wp2_with fail
    refine (ValveC.hold_call v g o x on _ hb0).mono ?_
    rintro e w5 ⟨rfl, k5, h5⟩
    go_wp2_with fail
    go_ret
    exact ⟨rfl, (k0.mono (by simp)).trans (k5.mono (by simp)), o, .inl rfl, h5⟩
  by_cases k5 : k = 5
  · subst k5
    have hbl := hO.lt
    have HB := Lib.hid hs0
    clear k1 k2 k3 k4 y1 y2 hs0
    go_wp2_with (at_builtin; refine wpList_app rfl _ _ rfl w0 (.slice sp l.length sc) l _ rfl rfl rfl HB.out hlen ?_)
    intro s5 w5 k5 g5 hg5 o5
    have hb5 := hb0.kept k5 (by simp)
    have K5 := k0.trans k5
    clear hb0 HB hO y0 y3 hg5 k5
    by_cases hn : (l.length : Int) = x.n
    · obtain rfl : y = x.take l := by rw [← HY.out]; simp [V.step, hn]
      obtain rfl : z = 0 := by rw [← HZ.out]; simp [V.res, hn]
      have hne0 : l ≠ [] := by rintro rfl; have := hx.2.1; simp at hn; omega
      have h8 : l.length ≤ 8 := by have := hx.2.2; omega
      go_wp2_with fail
      refine (take_call v g o x _ l _ hb5 o5.bytes hn.symm hne0 h8).mono ?_
      rintro e w6 ⟨rfl, k6, h6⟩
      go_wp2_with fail
      go_ret
      exact ⟨rfl, (K5.mono (by simp)).trans (k6.mono (by simp)), o, .inl rfl, h6⟩
    · obtain rfl : x = y := by rw [← HY.out]; simp [V.step, hn]
      obtain rfl : z = 45 := by rw [← HZ.out]; simp [V.res, hn]
      have hn' := Lib.hid hn
      clear hn
      go_wp2_with fail
      refine (take_len v g o x _ l _ hb5 o5.bytes (fun e => hn'.out e.symm)).mono ?_
      rintro e w6 ⟨rfl, k6⟩
      have b6 := hb5.kept k6 (by simp)
      go_wp2_with fail
      go_ret
      exact ⟨rfl, (K5.mono (by simp)).trans (k6.mono (by simp)), o, .inl rfl, b6⟩
  by_cases k6 : k = 6
  · subst k6
    obtain rfl : y = x.ack := by rw [← HY.out]; simp [V.step]
    have ez : (if x.request then (0 : Int) else 110) = z := by rw [← HZ.out]; simp [V.res]
    clear k1 k2 k3 k4 k5 hx hs0 hlow hlen y1 y2 y3 hown
    have A0 := ack_call v g o x _ hb0
    rw [ez] at A0
    have A := Lib.hid A0
    clear A0 ez
    go_wp2_with fail
    refine A.out.mono ?_
    rintro e w6 ⟨rfl, k6, o', ho', h6⟩
    have hz0 := k0.size
    go_wp2_with fail
    go_ret
    exact ⟨rfl, (k0.mono (by simp)).trans (k6.mono (by simp)), o', by omega, h6⟩
  · obtain rfl : x = y := by rw [← HY.out]; simp [V.step, k1, k2, k3, k4, k5, k6]
    obtain rfl : z = 0 := by rw [← HZ.out]; simp [V.res, k5, k6]
    have e1 : (k == 1) = false := by simp [k1]
    have e2 : (k == 2) = false := by simp [k2]
    have e3 : (k == 3) = false := by simp [k3]
    have e4 : (k == 4) = false := by simp [k4]
    have e5 : (k == 5) = false := by simp [k5]
    have e6 : (k == 6) = false := by simp [k6]
    clear k1 k2 k3 k4 k5 k6 hx hs0 hlow hlen y1 y2 y3 hown
    go_wp2_with fail
    go_ret
    exact ⟨rfl, k0.mono (by simp), o, .inl rfl, hb0⟩
theorem OpAt.ready1 {W w : World} {b off i v g o : Nat} {k c : Int} {on : Bool} {s : Value} {l : List Int} {x : V} (h : OpAt W b off i k c on s l) (K : Kept [] W w) (hb : IsV w v g o x) (hx : x.ok) (ho : W.heap.size ≤ v ∧ W.heap.size ≤ g ∧ W.heap.size ≤ o) :
    Ready1 w v g o x s l W.heap.size := ⟨hb, hx, Bytes.low h.bytes K (low_of h.bytes) (by simp), low_of h.bytes, ho, by have := h.len; unfold reachBytes at this; omega⟩
end Go.Proofs.Ytlafkeijikbenab.S11
