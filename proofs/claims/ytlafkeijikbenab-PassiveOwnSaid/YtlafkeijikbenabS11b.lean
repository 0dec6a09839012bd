/- Layer 11: PassiveNil. -/
import Derived.Test.YtlafkeijikbenabS11a
import Derived.Test.YtlafkeijikbenabFit
namespace Go.Proofs.Ytlafkeijikbenab.S11
open Go Go.RowKit Go.Proofs.Ytlafkeijikbenab.Hp Go.Proofs.Ytlafkeijikbenab.GateC Go.Proofs.Ytlafkeijikbenab.Sl Go.Proofs.Ytlafkeijikbenab.ValveC Go.Proofs.Ytlafkeijikbenab.ValveR Go.Proofs.Ytlafkeijikbenab.Fit
set_option linter.unusedVariables false
set_option linter.unusedSimpArgs false
/-- What the cells of a struct hold. -/
theorem op_cells {w : World} {n : Nat} {cs : List Value} (h : Fits Try.prog w n 45 cs) :
    ∃ (x0 : Int) (x1 : Int) (x2 : Bool) (x3 : Option Addr) (lx3 : Nat) (cx3 : Nat), cs = [.int .i64 x0, .int .i64 x1, .bool x2, .slice x3 lx3 cx3] ∧ (Lit.int .i64 x0).wf = true ∧ (Lit.int .i64 x1).wf = true ∧ (∃ n, Fits Try.prog w n 22 [.slice x3 lx3 cx3]) := by
  have hl := fits_len Try.underlying45 h 4 (by kernel_rfl)
  match cs, hl with
  | [v0, v1, v2, v3], _ =>
  obtain ⟨n1, h1⟩ := fits_field Try.underlying45 h 0 _ rfl 1 (by kernel_rfl) [v0] rfl
  obtain ⟨x0, e1, w1⟩ := fits_int Try.underlying3 h1
  obtain rfl : v0 = .int .i64 x0 := (List.cons.inj e1).1
  obtain ⟨n2, h2⟩ := fits_field Try.underlying45 h 1 _ rfl 1 (by kernel_rfl) [v1] rfl
  obtain ⟨x1, e2, w2⟩ := fits_int Try.underlying3 h2
  obtain rfl : v1 = .int .i64 x1 := (List.cons.inj e2).1
  obtain ⟨n3, h3⟩ := fits_field Try.underlying45 h 2 _ rfl 1 (by kernel_rfl) [v2] rfl
  obtain ⟨x2, e3⟩ := fits_bool Try.underlying4 h3
  obtain rfl : v2 = .bool x2 := (List.cons.inj e3).1
  obtain ⟨n4, h4⟩ := fits_field Try.underlying45 h 3 _ rfl 1 (by kernel_rfl) [v3] rfl
  obtain ⟨x3, lx3, cx3, e4⟩ := fits_slice Try.underlying22 h4
  obtain rfl : v3 = .slice x3 lx3 cx3 := (List.cons.inj e4).1
  exact ⟨x0, x1, x2, x3, lx3, cx3, rfl, w1, w2, ⟨_, h4⟩⟩
theorem Bytes.alloc {w : World} {v : Value} {l : List Int} (h : Bytes w v l) (o : Obj) : Bytes (w.alloc o) v l := h.kept ((Kept.refl [] w).alloc o) (by simp)
set_option maxRecDepth 100000 in
set_option maxHeartbeats 1600000 in
theorem PassiveNil_walk (k n : Int) (on : Bool) (s : Value) (l : List Int) (w : World) (hs : Bytes w s l) (hl : l.length ≤ reachBytes) :
    Calls Try.prog 7 #[.agg #[.int .i64 k, .int .i64 n, .bool on, s]] w fun e w' => e = .returned (.bool true) ∧ Below w.heap.size w w' := by
  have hH := Has.new w 45 [.int .i64 k, .int .i64 n, .bool on, s]
  have hk := (Kept.refl [] w).alloc (.cells #[.int .i64 k, .int .i64 n, .bool on, s] 45)
  have hB := Bytes.alloc hs (.cells #[.int .i64 k, .int .i64 n, .bool on, s] 45)
  have HL : l.length ≤ 140737488351232 := by unfold reachBytes at hl; omega
  obtain ⟨sp, sc, rfl⟩ := bytes_len hs
  clear hs hl
  go_enter Try.func7, Try.ntmps7
  go_upto_region 1 with (fail)
  have hH : Has (w.alloc (.cells #[.int .i64 k, .int .i64 n, .bool on, .slice sp l.length sc] 45)) w.heap.size 45 [.int .i64 k, .int .i64 n, .bool on, .slice sp l.length sc] := hH
  generalize w.alloc (.cells #[.int .i64 k, .int .i64 n, .bool on, .slice sp l.length sc] 45) = w0 at *
  generalize w.heap.size = b at *
  go_wp2_with fail
  refine (awake_call _).mono ?_
  rintro e w1 ⟨rfl, k1⟩
  have hH1 := k1.has hH (by simp)
  have hB1 := hB.kept k1 (by simp)
  have K1 := hk.trans k1
  clear hH hB hk k1
  have c2 := hH1.cell 2 (v := .bool on) rfl
  go_wp2_with fail
  refine (run_nil _ _).mono ?_
  rintro e w2 ⟨rfl, k2⟩
  go_wp2_with fail
  refine (fresh_nil _).mono ?_
  rintro e w3 ⟨rfl, k3⟩
  have k23 := k2.trans k3
  have hH3 := k23.has hH1 (by simp)
  have hB3 := hB1.kept k23 (by simp)
  have K3 := K1.trans k23
  clear c2 hH1 hB1 K1 k2 k3 k23
  have c2 := hH3.cell 2 (v := .bool on) rfl
  go_wp2_with fail
  refine (hold_nil _ _).mono ?_
  rintro e w4 ⟨rfl, k4⟩
  go_wp2_with fail
  refine (output_nil _).mono ?_
  rintro e w5 ⟨rfl, k5⟩
  have k45 := k4.trans k5
  have hH5 := k45.has hH3 (by simp)
  have hB5 := hB3.kept k45 (by simp)
  have K5 := K3.trans k45
  clear c2 hH3 hB3 K3 k4 k5 k45
  have c1 := hH5.cell 1 (v := .int .i64 n) rfl
  go_wp2_with fail
  refine (ValveC.trip_nil _ _).mono ?_
  rintro e w6 ⟨rfl, k6⟩
  have hH6 := k6.has hH5 (by simp)
  have hB6 := hB5.kept k6 (by simp)
  have K6 := K5.trans k6
  have c3 := hH6.cell 3 (v := .slice sp l.length sc) rfl
  have hb6 := hH6.lt
  have HB := Lib.hid hB6
  clear c1 hH5 hB5 K5 k6 hB6
  go_wp2_with (at_builtin; refine wpList_app rfl _ _ rfl w6 (.slice sp l.length sc) l _ rfl rfl rfl HB.out HL ?_)
  intro v' w7 k7 g hg ho
  have K7 := K6.trans k7
  clear ho hg
  go_wp2_with fail
  refine (take_nil _ _).mono ?_
  rintro e w8 ⟨rfl, k8⟩
  go_wp2_with fail
  refine (ack_nil _).mono ?_
  rintro e w9 ⟨rfl, k9⟩
  go_wp2_with fail
  refine (request_nil _).mono ?_
  rintro e wa ⟨rfl, rfl⟩
  go_wp2_with fail
  refine (latched_nil _).mono ?_
  rintro e wa ⟨rfl, rfl⟩
  go_wp2_with fail
  go_ret
  exact ⟨rfl, ((K7.trans k8).trans k9).toBelow (by simp)⟩
theorem PassiveNil_law (cs : Array Value) (w : World) (hz : cs.size = 4) (h : ∃ n, Fits Try.prog w n 45 (Value.agg cs).cells.toList) :
    Calls Try.prog 7 #[.agg cs] w fun e w' => e = .returned (.bool true) ∧ Below w.heap.size w w' := by
  obtain ⟨n, h⟩ := h
  obtain ⟨kind, x1, on, a, len, cap, e, _, _, m, hf⟩ := op_cells h
  obtain ⟨cl⟩ := cs
  obtain rfl : cl = _ := e
  obtain ⟨l, rfl, hb, hl, _⟩ := bytes_of_fits hf
  exact PassiveNil_walk kind x1 on _ l w hb hl
end Go.Proofs.Ytlafkeijikbenab.S11
