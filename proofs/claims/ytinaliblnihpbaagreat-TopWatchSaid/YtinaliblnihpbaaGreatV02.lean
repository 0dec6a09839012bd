/- The walks and the plain laws of ValveT, TopM, PlA, PlB. -/
import Derived.Test.YtinaliblnihpbaaGreatV01
set_option linter.unusedVariables false
set_option linter.unusedSimpArgs false
open Go.Lib (hid)
namespace Go.Proofs.YtinaliblnihpbaaGreat
namespace ValveC
open Go Go.RowKit Hp Atom GateC Sl
structure V where
  n : Int
  running : Bool
  fresh : Bool
  hold : Bool
  latched : Int
  value : Option (List Int)
def V.new (n : Int) : V := ⟨n, false, false, false, 0, none⟩
def Val (GG : Nat → Prop) (w : World) (s : Value) : Option (List Int) → Prop
  | none => s = .slice none 0 0
  | some l => l.length ≤ 8 ∧ ∃ k, Own w k s l ∧ GG k
def IsV (GG : Nat → Prop) (w : World) (v g o : Nat) (x : V) : Prop :=
  ∃ s t, Has w v 203 [.int .i64 x.n, .pointer (some ⟨g, 0, none⟩), .bool x.running, .bool x.fresh, .bool x.hold, s] ∧ IsG w g o ⟨x.latched, decide (x.latched ≠ 0), t⟩ ∧ Val GG w s x.value
variable {GG : Nat → Prop}
theorem Own.ne {w : World} {k b : Nat} {s : Value} {l : List Int} {T : TypeId} {cs : List Value} (h : Own w k s l) (h' : Has w b T cs) (hT : 5 ≠ T) : k ≠ b := by
  obtain ⟨_, _, _, h, _⟩ := h; exact Has.ne h h' hT
theorem Val.kept {w w' : World} {s : Value} {l : Option (List Int)} {S : List Nat} (h : Val GG w s l) (k : Kept S w w') (hS : ∀ b, b ∈ S → b < w.heap.size → ∃ T cs, Has w b T cs ∧ T ≠ 5) : Val GG w' s l := by
  cases l with
  | none => exact h
  | some l =>
    obtain ⟨hl, b, h, hG⟩ := h
    refine ⟨hl, b, h.kept k ?_, hG⟩
    intro hb
    obtain ⟨T, cs, hh, hT⟩ := hS b hb h.lt
    exact Own.ne h hh (fun e => hT e.symm) rfl
theorem IsV.kept {w w' : World} {v g o : Nat} {x : V} {S : List Nat} (h : IsV GG w v g o x) (k : Kept S w w') (hS : ∀ b, b ∈ S → w.heap.size ≤ b) : IsV GG w' v g o x := by
  obtain ⟨s, t, h1, h2, h3⟩ := h
  have n : ∀ b, b < w.heap.size → b ∉ S := fun b hb hm => by have := hS b hm; omega
  exact ⟨s, t, k.has h1 (n _ h1.lt), h2.kept k (n _ h2.1.lt) (n _ h2.2.lt), h3.kept k (fun b hb hl => absurd hb (n _ hl))⟩
theorem IsV.kept2 {w w' : World} {v g o : Nat} {x : V} {S : List Nat} (h : IsV GG w v g o x) (k : Kept S w w') (hS : ∀ b, b ∈ S → b < w.heap.size → ∃ T cs, Has w b T cs ∧ T ≠ 5 ∧ T ≠ 203 ∧ T ≠ 239 ∧ T ≠ 249) : IsV GG w' v g o x := by
  obtain ⟨s, t, h1, h2, h3⟩ := h
  refine ⟨s, t, k.has h1 ?_, h2.kept k ?_ ?_, h3.kept k (fun b hb hl => by obtain ⟨T, cs, q, n, _⟩ := hS b hb hl; exact ⟨T, cs, q, n⟩)⟩
  · intro hb; obtain ⟨T, cs, q, n1, n2, n3, n4⟩ := hS _ hb h1.lt; exact Has.ne h1 q (fun e => n2 e.symm) rfl
  · intro hb; obtain ⟨T, cs, q, n1, n2, n3, n4⟩ := hS _ hb h2.1.lt; exact Has.ne h2.1 q (fun e => n3 e.symm) rfl
  · intro hb; obtain ⟨T, cs, q, n1, n2, n3, n4⟩ := hS _ hb h2.2.lt; exact Has.ne h2.2 q (fun e => n4 e.symm) rfl

theorem IsV.kept3 {w w' : World} {v g o : Nat} {x : V} {S : List Nat} (h : IsV GG w v g o x) (k : Kept S w w') (hS : ∀ b, b ∈ S → b < w.heap.size → ∀ T cs, Has w b T cs → T ≠ 5 ∧ T ≠ 203 ∧ T ≠ 239 ∧ T ≠ 249) : IsV GG w' v g o x := by
  obtain ⟨s, t, h1, h2, h3⟩ := h
  refine ⟨s, t, k.has h1 ?_, h2.kept k ?_ ?_, ?_⟩
  · intro hb; exact (hS _ hb h1.lt _ _ h1).2.1 rfl
  · intro hb; exact (hS _ hb h2.1.lt _ _ h2.1).2.2.1 rfl
  · intro hb; exact (hS _ hb h2.2.lt _ _ h2.2).2.2.2 rfl
  · revert h3
    cases x.value with
    | none => exact id
    | some l =>
      rintro ⟨h8, k', ho, hG⟩
      refine ⟨h8, k', ho.kept k (fun hb => ?_), hG⟩
      obtain ⟨_, _, _, hh, _⟩ := id ho
      exact (hS _ hb ho.lt _ _ hh).1 rfl
theorem IsV.frame {w w' : World} {v g o : Nat} {x : V} {S : List Nat} (h : IsV GG w v g o x) (k : Kept S w w') (hv : GG v) (hg : GG g) (ho : GG o) (hS : ∀ b, b ∈ S → b < w.heap.size → ¬ GG b) : IsV GG w' v g o x := by
  obtain ⟨s, t, h1, h2, h3⟩ := h
  refine ⟨s, t, k.has h1 (fun hb => hS _ hb h1.lt hv), h2.kept k (fun hb => hS _ hb h2.1.lt hg) (fun hb => hS _ hb h2.2.lt ho), ?_⟩
  revert h3
  cases x.value with
  | none => exact id
  | some l =>
    rintro ⟨h8, k', ho, hG⟩
    exact ⟨h8, k', ho.kept k (fun hb => hS _ hb ho.lt hG), hG⟩
theorem IsV.mono {GG' : Nat → Prop} {w : World} {v g o : Nat} {x : V} (h : IsV GG w v g o x) (hG : ∀ b, b < w.heap.size → GG b → GG' b) : IsV GG' w v g o x := by
  obtain ⟨s, t, h1, h2, h3⟩ := h
  refine ⟨s, t, h1, h2, ?_⟩
  revert h3
  cases x.value with
  | none => exact id
  | some l =>
    rintro ⟨h8, k', ho, hg⟩
    exact ⟨h8, k', ho, hG _ ho.lt hg⟩
theorem IsV.lt {w : World} {v g o : Nat} {x : V} (h : IsV GG w v g o x) : v < w.heap.size ∧ g < w.heap.size ∧ o < w.heap.size := by
  obtain ⟨s, t, h1, h2, h3⟩ := h; exact ⟨h1.lt, h2.1.lt, h2.2.lt⟩
theorem new_call (n : Int) (h1 : 1 ≤ n) (h8 : n ≤ 8) (w : World) : Calls Tryz.prog 91 #[.int .i64 n] w fun e w' => ∃ v g o, e = .returned (.tuple #[.pointer (some ⟨v, 0, none⟩), .int .i64 0]) ∧ Kept [] w w' ∧ IsV GG w' v g o (V.new n) ∧ w.heap.size ≤ v ∧ w.heap.size ≤ g ∧ w.heap.size ≤ o := by
  have e1 : decide (n < 1) = false := by simpa using h1
  have e2 : decide (n > 8) = false := by simpa using h8
  go_enter Tryz.func91, Tryz.ntmps91
  go_wp2_with fail
  refine (GateC.new_call _).mono ?_
  rintro e w2 ⟨rfl, k2, h2, hsz⟩
  go_wp2
  go_ret2
  have hh := Has.new w2 203 [.int .i64 n, .pointer (some ⟨w.heap.size + 1, 0, none⟩), .bool false, .bool false, .bool false, .slice none 0 0]
  refine ⟨_, _, _, rfl, k2.alloc _, ⟨_, _, hh, ⟨h2.1.alloc _, h2.2.alloc _⟩, rfl⟩, ?_, ?_, ?_⟩
  · omega
  · omega
  · omega
def V.run (x : V) (on : Bool) : V := if x.running = on then x else { x with running := on, value := none, hold := false }
theorem run_call (v g o : Nat) (x : V) (on : Bool) (w : World) (h : IsV GG w v g o x) : Calls Tryz.prog 120 #[.pointer (some ⟨v, 0, none⟩), .bool on] w fun e w' => e = .returned (.tuple #[]) ∧ Kept [v] w w' ∧ IsV GG w' v g o (x.run on) := by
  obtain ⟨s, t, h1, h2, h3⟩ := h
  have c2 := h1.cell 2 (v := .bool x.running) rfl
  have c4 := h1.cell 4 (v := .bool x.hold) rfl
  have c5 := h1.cell 5 (v := s) rfl
  have z2 := h1.free 2
  have z4 := h1.free 4
  have z5 := h1.free 5
  by_cases e : x.running = on
  · have e1 : (!x.running == on) = false := by simp [e]
    have e9 : x.run on = x := by simp [V.run, e]
    rw [e9]
    have h1' := hid h1
    have h3' := hid h3
    clear h1 h3 e e9
    go_enter Tryz.func120, Tryz.ntmps120
    go_wp2
    go_end0
    exact ⟨rfl, Kept.refl _ _, ⟨s, t, h1'.out, h2, h3'.out⟩⟩
  · have e1 : (!x.running == on) = true := by simp [e]
    have e9 : x.run on = { x with running := on, value := none, hold := false } := by simp [V.run, e]
    rw [e9]
    have h1' := hid h1
    have h3' := hid h3
    have n1 : v ≠ g := Has.ne h1 h2.1 (by decide)
    have n2 : v ≠ o := Has.ne h1 h2.2 (by decide)
    clear h1 h3 e e9
    go_enter Tryz.func120, Tryz.ntmps120
    go_wp2
    go_end0
    have hk := (((Kept.refl [v] w).set ⟨v, 2, none⟩ (.bool on) (by simp)).set ⟨v, 5, none⟩ (.slice none 0 0) (by simp)).set ⟨v, 4, none⟩ (.bool false) (by simp)
    refine ⟨rfl, hk, ⟨_, t, ((h1'.out.set 2 (.bool on)).set 5 (.slice none 0 0)).set 4 (.bool false), h2.kept hk (by simp [n1.symm]) (by simp [n2.symm]), rfl⟩⟩
def V.holds (x : V) (on : Bool) : V := { x with hold := on && x.running }
theorem hold_call (v g o : Nat) (x : V) (on : Bool) (w : World) (h : IsV GG w v g o x) : Calls Tryz.prog 159 #[.pointer (some ⟨v, 0, none⟩), .bool on] w fun e w' => e = .returned (.tuple #[]) ∧ Kept [v] w w' ∧ IsV GG w' v g o (x.holds on) := by
  obtain ⟨s, t, h1, h2, h3⟩ := h
  have c2 := h1.cell 2 (v := .bool x.running) rfl
  have c4 := h1.cell 4 (v := .bool x.hold) rfl
  have z4 := h1.free 4
  have n1 : v ≠ g := Has.ne h1 h2.1 (by decide)
  have n2 : v ≠ o := Has.ne h1 h2.2 (by decide)
  have hk := (Kept.refl [v] w).set ⟨v, 4, none⟩ (.bool (on && x.running)) (by simp)
  have h9 : IsV GG _ v g o (x.holds on) := ⟨s, t, h1.set 4 (.bool (on && x.running)), h2.kept hk (by simp [n1.symm]) (by simp [n2.symm]), h3.kept hk (by intro b hb hl; simp at hb; subst hb; exact ⟨_, _, h1, by decide⟩)⟩
  have k9 := hid hk
  have r9 := hid h9
  clear hk h9 h1 h3 n1 n2 h2
  cases on
  · go_enter Tryz.func159, Tryz.ntmps159
    go_wp2
    go_end0
    exact ⟨rfl, k9.out, r9.out⟩
  · go_enter Tryz.func159, Tryz.ntmps159
    go_wp2
    go_end0
    exact ⟨rfl, k9.out, r9.out⟩
def V.come (x : V) : V := { x with fresh := x.latched != 0 }
theorem fresh_call (v g o : Nat) (x : V) (w : World) (h : IsV GG w v g o x) : Calls Tryz.prog 184 #[.pointer (some ⟨v, 0, none⟩)] w fun e w' => e = .returned (.tuple #[]) ∧ Kept [v] w w' ∧ IsV GG w' v g o x.come := by
  obtain ⟨s, t, h1, h2, h3⟩ := h
  have c1 := h1.cell 1 (v := .pointer (some ⟨g, 0, none⟩)) rfl
  have c3 := h1.cell 3 (v := .bool x.fresh) rfl
  have z3 := h1.free 3
  have n1 : v ≠ g := Has.ne h1 h2.1 (by decide)
  have n2 : v ≠ o := Has.ne h1 h2.2 (by decide)
  have hk := (Kept.refl [v] w).set ⟨v, 3, none⟩ (.bool (x.latched != 0)) (by simp)
  have h9 : IsV GG _ v g o x.come := ⟨s, t, h1.set 3 (.bool (x.latched != 0)), h2.kept hk (by simp [n1.symm]) (by simp [n2.symm]), h3.kept hk (by intro b hb hl; simp at hb; subst hb; exact ⟨_, _, h1, by decide⟩)⟩
  have k9 := hid hk
  have r9 := hid h9
  clear hk h9 h1 h3 n1 n2
  go_enter Tryz.func184, Tryz.ntmps184
  go_wp2_with fail
  refine (GateC.code_call g o _ _ h2).mono ?_
  rintro e w2 ⟨rfl, rfl⟩
  go_wp2
  go_end0
  exact ⟨rfl, k9.out, r9.out⟩
theorem latched_call (v g o : Nat) (x : V) (w : World) (h : IsV GG w v g o x) : Calls Tryz.prog 82 #[.pointer (some ⟨v, 0, none⟩)] w fun e w' => e = .returned (.int .i64 x.latched) ∧ w = w' := by
  obtain ⟨s, t, h1, h2, h3⟩ := h
  have c1 := h1.cell 1 (v := .pointer (some ⟨g, 0, none⟩)) rfl
  clear h3 h1
  go_enter Tryz.func82, Tryz.ntmps82
  go_wp2_with fail
  refine (GateC.code_call g o _ _ h2).mono ?_
  rintro e w2 ⟨rfl, rfl⟩
  go_wp2
  go_ret
  exact ⟨rfl, rfl⟩
def V.request (x : V) : Bool := x.running && (x.fresh && (x.latched != 0))
theorem request_call (v g o : Nat) (x : V) (w : World) (h : IsV GG w v g o x) : Calls Tryz.prog 83 #[.pointer (some ⟨v, 0, none⟩)] w fun e w' => e = .returned (.bool x.request) ∧ w = w' := by
  obtain ⟨s, t, h1, h2, h3⟩ := h
  have c1 := h1.cell 1 (v := .pointer (some ⟨g, 0, none⟩)) rfl
  have c2 := h1.cell 2 (v := .bool x.running) rfl
  have c3 := h1.cell 3 (v := .bool x.fresh) rfl
  clear h3 h1
  obtain ⟨n, r, f, hd, lt, vl⟩ := x
  cases r
  · go_enter Tryz.func83, Tryz.ntmps83
    go_wp2
    go_ret
    exact ⟨rfl, rfl⟩
  cases f
  · go_enter Tryz.func83, Tryz.ntmps83
    go_wp2
    go_ret
    exact ⟨rfl, rfl⟩
  · go_enter Tryz.func83, Tryz.ntmps83
    go_wp2_with fail
    refine (GateC.code_call g o _ _ h2).mono ?_
    rintro e w2 ⟨rfl, rfl⟩
    go_wp2
    go_ret
    exact ⟨rfl, rfl⟩
def V.trip (x : V) (c : Int) : V := if c = 0 then x else { x with value := none, fresh := false, latched := if x.latched = 0 then c else x.latched }
theorem trip_call (v g o : Nat) (x : V) (c : Int) (w : World) (h : IsV GG w v g o x) : Calls Tryz.prog 137 #[.pointer (some ⟨v, 0, none⟩), .int .i64 c] w fun e w' => e = .returned (.bool (decide (c ≠ 0) && decide (x.latched = 0))) ∧ Kept [v, g, o] w w' ∧ IsV GG w' v g o (x.trip c) := by
  by_cases hc : c = 0
  · have e0 : (c == 0) = true := by simp [hc]
    have e9 : x.trip c = x := by simp [V.trip, hc]
    have er : (decide (c ≠ 0) && decide (x.latched = 0)) = false := by simp [hc]
    rw [e9, er]
    have h' := hid h
    clear h hc e9 er
    go_enter Tryz.func137, Tryz.ntmps137
    go_wp2
    go_ret
    exact ⟨rfl, Kept.refl _ _, h'.out⟩
  · have e0 : (c == 0) = false := by simp [hc]
    have er : (decide (c ≠ 0) && decide (x.latched = 0)) = decide (x.latched = 0) := by simp [hc]
    rw [er]
    obtain ⟨s, t, h1, h2, h3⟩ := h
    have c1 := h1.cell 1 (v := .pointer (some ⟨g, 0, none⟩)) rfl
    have c3 := h1.cell 3 (v := .bool x.fresh) rfl
    have c5 := h1.cell 5 (v := s) rfl
    have z3 := h1.free 3
    have z5 := h1.free 5
    have n1 : v ≠ g := Has.ne h1 h2.1 (by decide)
    have n2 : v ≠ o := Has.ne h1 h2.2 (by decide)
    have hk0 := ((Kept.refl [v] w).set ⟨v, 5, none⟩ (.slice none 0 0) (by simp)).set ⟨v, 3, none⟩ (.bool false) (by simp)
    have hg := h2.kept hk0 (by simp [n1.symm]) (by simp [n2.symm])
    have hv := (h1.set 5 (.slice none 0 0)).set 3 (.bool false)
    have hv' := hid hv
    have hg' := hid hg
    have hk' := hid hk0
    have N := hid hc
    clear hk0 hg hv h1 h2 h3 hc er
    go_enter Tryz.func137, Tryz.ntmps137
    go_wp2_with fail
    refine (GateC.trip_call g o _ c _ hg'.out N.out).mono ?_
    rintro e w2 ⟨rfl, k2, h2⟩
    go_wp2
    go_ret
    refine ⟨rfl, (hk'.out.mono (by simp)).trans (k2.mono (by simp)), ?_⟩
    have hc := N.out
    by_cases h0 : x.latched = 0
    · have ex : x.trip c = ⟨x.n, x.running, false, x.hold, c, none⟩ := by simp [V.trip, hc, h0]
      have : G.trip ⟨x.latched, decide (x.latched ≠ 0), t⟩ c = ⟨c, decide (c ≠ 0), wrap64 (t + 1)⟩ := by simp [G.trip, h0, hc]
      rw [this] at h2
      rw [ex]
      exact ⟨_, wrap64 (t + 1), k2.has hv'.out (by simp [n1, n2]), h2, rfl⟩
    · have ex : x.trip c = ⟨x.n, x.running, false, x.hold, x.latched, none⟩ := by simp [V.trip, hc, h0]
      have : G.trip ⟨x.latched, decide (x.latched ≠ 0), t⟩ c = ⟨x.latched, decide (x.latched ≠ 0), wrap64 (t + 1)⟩ := by simp [G.trip, h0]
      rw [this] at h2
      rw [ex]
      exact ⟨_, wrap64 (t + 1), k2.has hv'.out (by simp [n1, n2]), h2, rfl⟩
def V.ack (x : V) : V := if x.request then { x with latched := 0, fresh := false } else x
def Acked (GG : Nat → Prop) (w w' : World) (v g o : Nat) (x : V) : Prop := ∃ o', (o' = o ∨ w.heap.size ≤ o') ∧ IsV GG w' v g o' x
set_option maxHeartbeats 1600000 in
theorem ack_call (v g o : Nat) (x : V) (w : World) (h : IsV GG w v g o x) : Calls Tryz.prog 106 #[.pointer (some ⟨v, 0, none⟩)] w fun e w' => e = .returned (.int .i64 (if x.request then 0 else 110)) ∧ Kept [v, g, o] w w' ∧ Acked GG w w' v g o x.ack := by
  have hv := hid h
  by_cases hr : x.request = true
  · have ea : x.ack = { x with latched := 0, fresh := false } := by simp [V.ack, hr]
    rw [ea, hr]
    obtain ⟨s, t, h1, h2, h3⟩ := h
    have c1 := h1.cell 1 (v := .pointer (some ⟨g, 0, none⟩)) rfl
    have n1 : v ≠ g := Has.ne h1 h2.1 (by decide)
    have n2 : v ≠ o := Has.ne h1 h2.2 (by decide)
    have H1 := hid h1
    have H3 := hid h3
    have er : (!x.request) = false := by simp [hr]
    have R := hid hr
    clear hr ea h1 h3
    go_enter Tryz.func106, Tryz.ntmps106
    go_wp2_with fail
    refine (request_call v g o x _ hv.out).mono ?_
    rintro e w2 ⟨rfl, rfl⟩
    go_wp2_with fail
    refine (GateC.lift_call g o _ _ h2).mono ?_
    rintro e w2 ⟨rfl, k2, h2'⟩
    have hh := k2.has H1.out (by simp [n1])
    have c3 := hh.cell 3 (v := .bool x.fresh) rfl
    have z3 := hh.free 3
    have HH := hid hh
    have hl := H1.out.lt
    have h2l := h2.2.lt
    clear hh
    go_wp2
    go_ret
    have hk3 := (Kept.refl [v] w2).set ⟨v, 3, none⟩ (.bool false) (by simp)
    have n3 : v ≠ w.heap.size := by omega
    refine ⟨rfl, ((k2.mono (by simp)).trans (hk3.mono (by simp))), w.heap.size, .inr (Nat.le_refl _), ⟨s, 0, HH.out.set 3 (.bool false), h2'.kept hk3 (by simp [n1.symm]) (by simp [n3.symm]), ?_⟩⟩
    refine Val.kept (Val.kept H3.out k2 ?_) hk3 ?_
    · intro b hb hl; simp at hb; subst hb; exact ⟨_, _, h2.1, by decide⟩
    · intro b hb hl; simp at hb; subst hb; exact ⟨_, _, HH.out, by decide⟩
  · have hr : x.request = false := by simpa using hr
    have ea : x.ack = x := by simp [V.ack, hr]
    rw [ea, hr]
    have er : (!x.request) = true := by simp [hr]
    clear hr ea h
    go_enter Tryz.func106, Tryz.ntmps106
    go_wp2_with fail
    refine (request_call v g o x _ hv.out).mono ?_
    rintro e w2 ⟨rfl, rfl⟩
    go_wp2
    go_ret
    exact ⟨rfl, Kept.refl _ _, o, .inl rfl, hv.out⟩
def V.take (x : V) (l : List Int) : V := if x.running && (x.latched == 0) then { x with value := some l } else x
theorem bytes_len {w : World} {s : Value} {l : List Int} (h : Bytes w s l) : ∃ p c, s = .slice p l.length c := by
  rcases h with ⟨rfl, rfl⟩ | ⟨x, cap, rfl, _⟩
  · exact ⟨_, _, rfl⟩
  · exact ⟨_, _, rfl⟩
set_option maxHeartbeats 1600000 in
theorem take_call (v g o : Nat) (x : V) (a : Value) (l : List Int) (w : World) (hGG : Ow.Opn GG w) (h : IsV GG w v g o x) (ha : Bytes w a l) (hn : x.n = (l.length : Int)) (h1 : l ≠ []) (h8 : l.length ≤ 8) :
    Calls Tryz.prog 160 #[.pointer (some ⟨v, 0, none⟩), a] w fun e w' => e = .returned (.int .i64 0) ∧ Kept [v] w w' ∧ IsV GG w' v g o (x.take l) := by
  have hv := hid h
  obtain ⟨s, t, h1', h2, h3⟩ := h
  have c0 := h1'.cell 0 (v := .int .i64 x.n) rfl
  have c1 := h1'.cell 1 (v := .pointer (some ⟨g, 0, none⟩)) rfl
  have c2 := h1'.cell 2 (v := .bool x.running) rfl
  have n1 : v ≠ g := Has.ne h1' h2.1 (by decide)
  have n2 : v ≠ o := Has.ne h1' h2.2 (by decide)
  have H1 := hid h1'
  obtain ⟨p, c, rfl⟩ := bytes_len ha
  have HA := hid ha
  have HN := hid h1
  have en : ((l.length : Int) != x.n) = false := by simp [hn]
  clear ha h1 h3 h1' hn
  by_cases hr : x.running && (x.latched == 0)
  · have ex : x.take l = { x with value := some l } := by simp only [V.take, hr]; rfl
    rw [ex]
    obtain ⟨hr1, hr2⟩ := by simpa only [Bool.and_eq_true] using hr
    rw [hr1] at c2
    have R := hid hr1
    clear hr ex hr1
    go_enter Tryz.func160, Tryz.ntmps160
    go_wp2_with fail
    refine (GateC.code_call g o _ _ h2).mono ?_
    rintro e w2 ⟨rfl, rfl⟩
    go_wp2_with fail
    refine (clone_call _ l _ HA.out (by omega)).mono ?_
    rintro e w2 ⟨cv, rfl, k2, hcl⟩
    have hown : ∃ kk, w.heap.size ≤ kk ∧ Own w2 kk cv l := by
      rcases hcl with ⟨e1, e2⟩ | ⟨_, kk, hk, ho⟩
      · rcases HA.out with ⟨_, e⟩ | ⟨x, cap, e, _⟩
        · exact absurd e HN.out
        · rw [e] at e1; cases e1
      · exact ⟨kk, hk, ho⟩
    obtain ⟨kk, hkk, ho⟩ := hown
    obtain ⟨cap, cur, ecv, _⟩ := id ho
    subst ecv
    have HO := hid ho
    have hh := k2.has H1.out (by simp)
    have c5 := hh.cell 5 (v := s) rfl
    have z5 := hh.free 5
    have HH := hid hh
    have hl := H1.out.lt
    have h2l := h2.1.lt
    have h2m := h2.2.lt
    clear hh hcl ho
    go_wp2
    go_ret
    have hk3 := (Kept.refl [v] w2).set ⟨v, 5, none⟩ (.slice (some ⟨kk, 0, none⟩) l.length cap) (by simp)
    have n3 : kk ≠ v := by omega
    have e9 : x.running = true := R.out
    have HV := HH.out.set 5 (.slice (some ⟨kk, 0, none⟩) l.length cap)
    refine ⟨rfl, (k2.mono (by simp)).trans hk3, ⟨_, t, by simpa [e9] using HV, (h2.kept k2 (by simp) (by simp)).kept hk3 (by simp [n1.symm]) (by simp [n2.symm]), h8, kk, HO.out.kept hk3 (by simp [n3]), hGG _ hkk⟩⟩
  · have ex : x.take l = x := by simp only [V.take, hr]; rfl
    rw [ex]
    have hr' : (x.running && (x.latched == 0)) = false := by simpa using hr
    clear hr ex
    rcases hx : x.running with _ | _
    · rw [hx] at c2
      clear hx hr'
      go_enter Tryz.func160, Tryz.ntmps160
      go_wp2_with fail
      go_ret
      exact ⟨rfl, Kept.refl _ _, hv.out⟩
    · rw [hx] at c2 hr'
      rw [Bool.true_and] at hr'
      clear hx
      go_enter Tryz.func160, Tryz.ntmps160
      go_wp2_with fail
      refine (GateC.code_call g o _ _ h2).mono ?_
      rintro e w2 ⟨rfl, rfl⟩
      go_wp2
      go_ret
      exact ⟨rfl, Kept.refl _ _, hv.out⟩
def V.on (x : V) : Bool := x.running && (!x.hold && x.value.isSome)
def V.out (x : V) : List Int := if x.on then x.value.getD [] else List.replicate x.n.toNat 0
theorem made_u8 (n : Nat) : (madeCells (Value.int .u8 0).cells n).toList = U8 (List.replicate n 0) := by
  apply List.ext_getElem?
  intro i
  rcases Nat.lt_or_ge i n with h | h
  · simp [madeCells, Value.cells, U8, h, Nat.mod_one, List.getElem?_map, List.getElem?_range h]
  · simp [madeCells, Value.cells, U8, h]
theorem info_make (n : Int) (h1 : 1 ≤ n) (h8 : n ≤ 8) (W : World) : (Instr.makeSlice 36 (.int .i64 n) (.int .i64 n)).run Tryz.prog W = .ok (.slice (some ⟨W.heap.size, 0, none⟩) n.toNat n.toNat) (W.alloc (.cells (U8 (List.replicate n.toNat 0)).toArray 5)) := by
  obtain ⟨i0, hi, hz0, hz1, hz2⟩ := info_parts info5
  have := run_make (P := Tryz.prog) W 36 5 i0 (.int .u8 0) Tryz.underlying36 hi hz0 .i64 .i64 n n (by omega) (by omega) (by rw [hz2]; omega) (by omega)
  rw [this, hz1, Nat.mul_one, ← made_u8]
def Outs (w w' : World) (s : Value) (l : List Int) : Prop := ∃ k, w.heap.size ≤ k ∧ Own w' k s l
set_option maxHeartbeats 1600000 in
theorem output_call (v g o : Nat) (x : V) (w : World) (h : IsV GG w v g o x) (hn : 1 ≤ x.n) (h8 : x.n ≤ 8) :
    Calls Tryz.prog 80 #[.pointer (some ⟨v, 0, none⟩)] w fun e w' => ∃ s, e = .returned (.tuple #[s, .bool x.on]) ∧ Kept [] w w' ∧ Outs w w' s x.out := by
  obtain ⟨s, t, h1', h2, h3⟩ := h
  have c0 := h1'.cell 0 (v := .int .i64 x.n) rfl
  have c2 := h1'.cell 2 (v := .bool x.running) rfl
  have c4 := h1'.cell 4 (v := .bool x.hold) rfl
  have c5 := h1'.cell 5 (v := s) rfl
  have hm := info_make x.n hn h8
  have ez : U8 (List.replicate x.n.toNat 0) = U8 (List.replicate x.n.toNat 0) := rfl
  have hz : Outs w (w.alloc (.cells (U8 (List.replicate x.n.toNat 0)).toArray 5)) (.slice (some ⟨w.heap.size, 0, none⟩) x.n.toNat x.n.toNat) (List.replicate x.n.toNat 0) := by
    refine ⟨w.heap.size, Nat.le_refl _, x.n.toNat, U8 (List.replicate x.n.toNat 0), by simp, Has.new w _ _, by simp, by unfold maxLen; omega, by simp [U8], ?_⟩
    rw [List.take_of_length_le (by simp [U8])]
  have hk := (Kept.refl [] w).alloc (.cells (U8 (List.replicate x.n.toNat 0)).toArray 5)
  have HZ := hid hz
  have HK := hid hk
  have H1 := hid hn
  clear hz hk h1' h2 hn h8 ez
  by_cases hr : x.running
  case neg =>
    have eo : x.on = false := by simp [V.on, hr]
    have el : x.out = List.replicate x.n.toNat 0 := by simp [V.out, eo]
    rw [eo, el]
    simp at hr
    rw [hr] at c2
    clear hr eo el h3
    go_enter Tryz.func80, Tryz.ntmps80
    go_wp2
    go_ret2
    exact ⟨_, rfl, HK.out, HZ.out⟩
  rw [hr] at c2
  by_cases hh : x.hold
  · have eo : x.on = false := by simp [V.on, hh]
    have el : x.out = List.replicate x.n.toNat 0 := by simp [V.out, eo]
    rw [eo, el]
    rw [hh] at c4
    clear hr hh eo el h3
    go_enter Tryz.func80, Tryz.ntmps80
    go_wp2
    go_ret2
    exact ⟨_, rfl, HK.out, HZ.out⟩
  simp at hh
  rw [hh] at c4
  cases hv : x.value with
  | none =>
    have eo : x.on = false := by simp [V.on, hv]
    have el : x.out = List.replicate x.n.toNat 0 := by simp [V.out, eo]
    rw [eo, el]
    rw [hv] at h3
    obtain rfl : s = .slice none 0 0 := h3
    have hnil : ∀ W : World, (binOp .neq 36 (.slice none 0 0) (.slice none 0 0)).run Tryz.prog W = .ok (.bool false) W := fun W => Go.run_neq_slice_nil_any W 36 _ none 0 0 0 0 Tryz.underlying36
    clear hr hh hv eo el
    go_enter Tryz.func80, Tryz.ntmps80
    go_wp2
    go_ret2
    exact ⟨_, rfl, HK.out, HZ.out⟩
  | some l =>
    have eo : x.on = true := by simp [V.on, hv, hr, hh]
    have el : x.out = l := by simp [V.out, eo, hv]
    rw [eo, el]
    rw [hv] at h3
    obtain ⟨h8, kk, ho, hGk⟩ := h3
    obtain ⟨cap, cur, rfl, ho2⟩ := id ho
    have HO := hid ho
    have hnil : ∀ W : World, (binOp .neq 36 (.slice (some ⟨kk, 0, none⟩) l.length cap) (.slice none 0 0)).run Tryz.prog W = .ok (.bool true) W := fun W => Go.run_neq_slice_nil_any W 36 _ (some ⟨kk, 0, none⟩) l.length cap 0 0 Tryz.underlying36
    clear hr hh hv eo el ho ho2
    go_enter Tryz.func80, Tryz.ntmps80
    go_wp2_with fail
    refine (clone_call _ l _ HO.out.bytes (by omega)).mono ?_
    rintro e w2 ⟨cv, rfl, k2, hcl⟩
    have hown : ∃ kk, w.heap.size ≤ kk ∧ Own w2 kk cv l := by
      rcases hcl with ⟨e1, e2⟩ | ⟨_, kk, hk, ho⟩
      · cases e1
      · exact ⟨kk, hk, ho⟩
    obtain ⟨k3, hkk, ho⟩ := hown
    have HO2 := hid ho
    clear hcl ho
    go_wp2
    go_ret2
    exact ⟨cv, rfl, k2, k3, hkk, HO2.out⟩
end ValveC
namespace TM
open Go ValveC
structure P where
  code : Int
  out : Int
  inn : Int
  watch : Int
  count : Int
structure U where
  kind : Int
  code : Int
  ses : Int
  num : Int
  flags : Int
  data : List Int
def U.zero : U := ⟨0, 0, 0, 0, 0, []⟩
structure M where
  b : List Int
  off : Bool
  armed : Bool
  left : Int
def M.new : M := ⟨List.replicate 16 0, false, false, 0⟩
def M.write (m : M) (i : Nat) (c : Int) : M × Int :=
  if m.off then (m, 70) else if m.armed && (m.left == 0) then ({ m with off := true }, 70)
  else ({ m with left := if m.armed then m.left - 1 else m.left, b := m.b.set i c }, 0)
def M.steps (m : M) : List (Nat × Int) → M × Int
  | [] => (m, 0)
  | (i, c) :: r => if (m.write i c).2 = 0 then M.steps (m.write i c).1 r else m.write i c
def M.mark (m : M) (k : Nat) : Int := m.b.getD (5 * k) 0
def M.word (m : M) (k : Nat) : Int := ((m.b.getD (5 * k + 1) 0 * 256 + m.b.getD (5 * k + 2) 0) * 256 + m.b.getD (5 * k + 3) 0) * 256 + m.b.getD (5 * k + 4) 0
def M.slot (m : M) (k : Nat) (x : Int) : M × Int :=
  m.steps [(5 * k, 0), (5 * k + 1, x / 16777216), (5 * k + 2, x / 65536 % 256), (5 * k + 3, x / 256 % 256), (5 * k + 4, x % 256), (5 * k, 165)]
def M.open (m : M) : M × Int × Int :=
  if m.off then (m, 0, 70)
  else if m.mark 0 = 165 then
    if m.mark 1 = 165 then (m, max (m.word 0) (m.word 1), 0) else ((m.slot 1 (m.word 0)).1, m.word 0, (m.slot 1 (m.word 0)).2)
  else if m.mark 1 = 165 then ((m.slot 0 (m.word 1)).1, m.word 1, (m.slot 0 (m.word 1)).2)
  else ((m.steps ((if m.mark 0 ≠ 0 then [(0, 0)] else []) ++ (if m.mark 1 ≠ 0 then [(5, 0)] else []))).1, 0,
    (m.steps ((if m.mark 0 ≠ 0 then [(0, 0)] else []) ++ (if m.mark 1 ≠ 0 then [(5, 0)] else []))).2)
def M.on (m : M) : M := { m with armed := false, off := false }
def M.arm (m : M) (n : Int) : M := { m with armed := true, left := n }
def M.spare (m : M) : Nat := if m.mark 0 = 165 ∧ (m.mark 1 ≠ 165 ∨ m.word 1 < m.word 0) then 1 else 0
structure C where
  max : Int
  value : Int
  dead : Bool
def C.next (c : C) (m : M) : C × M × Int × Int :=
  if c.dead || m.off then (c, m, 0, 70)
  else if c.value ≥ c.max then (c, m, 0, 80)
  else if (m.slot m.spare (c.value + 1)).2 = 0 then ({ c with value := c.value + 1 }, (m.slot m.spare (c.value + 1)).1, c.value + 1, 0)
  else ({ c with dead := true }, (m.slot m.spare (c.value + 1)).1, 0, 70)
def flagsOf (v : V) (hold : Bool) : Int :=
  (if v.on then 0 else 1) + (if v.request then 2 else 0) + (if v.latched = 0 then 0 else 4) + (if hold then 8 else 0)
def holdBit (f : Int) : Bool := decide (f / 8 % 2 = 1)
def ticked (limit since n : Int) : Int := if since ≥ limit then since else since + min n (limit - since)
def barks (limit since n : Int) : Bool := decide (since < limit ∧ n ≥ limit - since)
structure D where
  p : P
  m : M
  c : C
  since : Int
  v : V
  state : Int
  ses : Int
  num : Int
  sent : Int
  odd : Int
  value : List Int
  hold : Bool
section
variable (sig : List Int)
def D.fresh (d : D) : D :=
  { d with since := 0, v := V.new d.p.out, state := 1, ses := 0, num := 0, sent := 0, odd := 0, value := List.replicate d.p.inn.toNat 0, hold := false }
def D.new (p : P) (max : Int) : D := ⟨p, M.new, ⟨max, 0, false⟩, 0, V.new p.out, 1, 0, 0, 0, 0, List.replicate p.inn.toNat 0, false⟩
def D.down (d : D) : D := { d.fresh with state := 6 }
def D.reset0 (d : D) (n : Int) : D := { d.fresh with m := if n > 0 then d.m.on.arm (n - 1) else d.m.on }
def D.reset (d : D) (n : Int) : D × Int :=
  if (d.reset0 n).m.open.2.2 = 0 then ({ d.reset0 n with m := (d.reset0 n).m.open.1, c := ⟨d.c.max, (d.reset0 n).m.open.2.1, false⟩ }, 0)
  else ({ d.reset0 n with m := (d.reset0 n).m.open.1 }.down, (d.reset0 n).m.open.2.2)
def D.trip (d : D) (c : Int) : D := { d with v := d.v.trip c }
def D.alive (d : D) : D := { d with odd := 0, since := 0, v := d.v.come }
def D.leave (d : D) (s : Int) : D := { d with v := d.v.run false, state := s, ses := 0, num := 0, sent := 0, odd := 0 }
def D.reply (d : D) (k num : Int) (data : List Int) : U := ⟨k, d.p.code, d.ses, num, if k = 20 then flagsOf d.v d.hold else 0, data⟩
def D.half (d : D) : Prop := d.state = 2 ∨ d.state = 3 ∨ d.state = 4
instance (d : D) : Decidable d.half := by unfold D.half; infer_instance
def D.stuck (d : D) : D × Bool :=
  if d.half then
    if d.odd + 1 < 4 then ({ d with odd := d.odd + 1 }, false)
    else ((if d.state = 4 then ({ d with odd := d.odd + 1 } : D).trip 131 else { d with odd := d.odd + 1 }).leave 1, true)
  else (d, false)
def D.odds (d : D) (e : Int) : D × Option U × Int := (d.stuck.1, some (d.stuck.1.reply 22 0 []), e)
def D.offer (d : D) : U := d.reply 17 0 sig
def D.begin (d : D) : D × Option U × Int :=
  if (d.c.next d.m).2.2.2 = 80 then (((d.trip 80).leave 5), some (((d.trip 80).leave 5).reply 22 0 []), 80)
  else if (d.c.next d.m).2.2.2 = 0 then
    ({ ({ d with c := (d.c.next d.m).1, m := (d.c.next d.m).2.1 } : D).leave 2 with ses := (d.c.next d.m).2.2.1 },
      some (({ ({ d with c := (d.c.next d.m).1, m := (d.c.next d.m).2.1 } : D).leave 2 with ses := (d.c.next d.m).2.2.1 } : D).offer sig), 0)
  else (({ d with c := (d.c.next d.m).1, m := (d.c.next d.m).2.1 } : D).down, none, 70)
def D.asked (d : D) (u : U) : D × Option U × Int :=
  if u.data = sig then
    if d.half then
      if d.stuck.2 then d.stuck.1.begin sig
      else if d.stuck.1.state = 2 then (d.stuck.1, some (d.stuck.1.offer sig), 130) else (d.stuck.1, some (d.stuck.1.reply 22 0 []), 130)
    else d.begin sig
  else d.odds 91
def D.agree (d : D) : D := if d.state = 2 then ({ d with state := 3 } : D).alive else d
def D.echoed (d : D) (u : U) : D × Option U × Int :=
  if u.data = sig then (d.agree, some (d.agree.reply 18 0 []), 0) else d.odds 91
def D.go (d : D) : D := if d.state = 3 then ({ d with state := 4, v := d.v.run true } : D).alive else d
def D.started (d : D) : D × Option U × Int := (d.go, some (d.go.reply 19 0 []), 0)
def D.feed (d : D) (u : U) : D :=
  { ({ d with num := u.num } : D).alive with v := ((({ d with num := u.num } : D).alive.v.holds (holdBit u.flags)).take u.data), sent := IntKind.u32.wrap (d.sent + 1) }
def D.fed (d : D) (u : U) : D × Option U × Int := (d.feed u, some ((d.feed u).reply 20 (d.feed u).sent d.value), 0)
def D.last (d : D) (u : U) : D := { (({ d with num := u.num } : D).alive.trip 80) with sent := d.p.count }
def D.ended (d : D) (u : U) : D × Option U × Int := ({ d.last u with v := (d.last u).v.run false, state := 5 }, some ((d.last u).reply 21 d.p.count []), 0)
def D.next (d : D) (u : U) : Prop := d.state = 4 ∧ d.ses = u.ses ∧ u.num > d.num
instance (d : D) (u : U) : Decidable (d.next u) := by unfold D.next; infer_instance
def D.take (d : D) (u : U) : D × Option U × Int :=
  if u.kind = 1 then d.asked sig u
  else if u.kind = 2 ∧ d.ses = u.ses ∧ (d.state = 2 ∨ d.state = 3) then d.echoed sig u
  else if u.kind = 3 ∧ d.ses = u.ses ∧ (d.state = 3 ∨ d.state = 4 ∧ d.num = 0) then d.started
  else if u.kind = 4 ∧ d.next u ∧ (u.data.length : Int) = d.p.out ∧ u.num < d.p.count then d.fed u
  else if u.kind = 5 ∧ d.next u ∧ u.num = d.p.count then d.ended u
  else d.odds 130
def D.receive (d : D) (u : U) (e : Int) : D × Option U × Int :=
  if d.state = 6 then (d, none, 70)
  else if e ≠ 0 then (d, none, e)
  else if ¬ (1 ≤ u.kind ∧ u.kind ≤ 5) then (d, none, 43)
  else if u.code ≠ d.p.code then (d, none, 44)
  else d.take sig u
def D.write (d : D) (l : List Int) (hold : Bool) : D × Int :=
  if d.state = 6 then (d, 70) else if (l.length : Int) ≠ d.p.inn then (d, 45) else ({ d with value := l, hold := hold }, 0)
def D.tick (d : D) (n : Int) : D × Int :=
  if d.state = 6 then (d, 70)
  else (if barks d.p.watch d.since n then ({ d with since := ticked d.p.watch d.since n } : D).trip 100 else { d with since := ticked d.p.watch d.since n }, 0)
def D.ack (d : D) : D × Int := if d.state = 6 then (d, 70) else ({ d with v := d.v.ack }, if d.v.request then 0 else 110)
structure End where
  state : Int
  ses : Int
  num : Int
  sent : Int
  since : Int
  latched : Int
  request : Bool
  on : Bool
  out : List Int
def D.see (d : D) : End := ⟨d.state, d.ses, d.num, d.sent, d.since, d.v.latched, d.v.request, d.v.on, d.v.out⟩
structure H where
  p : P
  since : Int
  v : V
  state : Int
  ses : Int
  num : Int
  sent : Int
  waits : Bool
  missed : Int
  value : List Int
  hold : Bool
def H.new (p : P) : H := ⟨p, 0, V.new p.inn, 1, 0, 0, 0, false, 0, List.replicate p.out.toNat 0, false⟩
def H.trip (h : H) (c : Int) : H := { h with v := h.v.trip c }
def H.alive (h : H) : H := { h with waits := false, missed := 0, since := 0, v := h.v.come }
def H.leave (h : H) (s : Int) : H := { h with v := h.v.run false, state := s, num := 0, sent := 0, waits := false, missed := 0 }
def H.lost (h : H) : H :=
  if h.state = 1 ∨ h.waits = false then h
  else if h.missed + 1 < 4 then { h with missed := h.missed + 1 }
  else (if h.state = 4 then ({ h with missed := h.missed + 1 } : H).trip 131 else { h with missed := h.missed + 1 }).leave 1
def H.compose (h : H) : H × U :=
  if h.state = 1 then (h, ⟨1, h.p.code, 0, 0, 0, sig⟩)
  else if h.state = 2 then (h, ⟨2, h.p.code, h.ses, 0, 0, sig⟩)
  else if h.state = 3 then (h, ⟨3, h.p.code, h.ses, 0, 0, []⟩)
  else if IntKind.u32.wrap (h.sent + 1) = h.p.count then
    ({ h with sent := IntKind.u32.wrap (h.sent + 1), v := (h.v.trip 80).run false, state := 5 }, ⟨5, h.p.code, h.ses, IntKind.u32.wrap (h.sent + 1), 0, []⟩)
  else ({ h with sent := IntKind.u32.wrap (h.sent + 1) }, ⟨4, h.p.code, h.ses, IntKind.u32.wrap (h.sent + 1), flagsOf h.v h.hold, h.value⟩)
def H.send (h : H) : H × Option U × Int :=
  if h.state = 5 then (h, none, 132) else ({ (h.lost.compose sig).1 with waits := true }, some (h.lost.compose sig).2, 0)
def H.offered (h : H) (u : U) : H × Int :=
  if u.kind ≠ 17 ∨ u.ses ≤ h.ses then (h, 130)
  else if u.data = sig then (({ h with ses := u.ses, state := 2 } : H).alive, 0) else (h, 91)
def H.take (h : H) (u : U) : H × Int :=
  if h.state = 2 ∧ u.kind = 18 then (({ h with state := 3 } : H).alive, 0)
  else if h.state = 3 ∧ u.kind = 19 then (({ h with state := 4, v := h.v.run true } : H).alive, 0)
  else if h.state = 4 ∧ u.kind = 20 ∧ u.num > h.num ∧ u.num < h.p.count ∧ (u.data.length : Int) = h.p.inn then
    ({ ({ h with num := u.num } : H).alive with v := ((({ h with num := u.num } : H).alive.v.holds (holdBit u.flags)).take u.data) }, 0)
  else if h.state = 4 ∧ u.kind = 21 ∧ u.num > h.num ∧ u.num = h.p.count then
    ({ ({ h with num := u.num } : H).alive with v := (({ h with num := u.num } : H).alive.v.trip 80).run false, state := 5 }, 0)
  else (h, 130)
def H.receive (h : H) (u : U) (e : Int) : H × Int :=
  if e ≠ 0 then (h, e)
  else if ¬ (17 ≤ u.kind ∧ u.kind ≤ 22) then (h, 43)
  else if u.code ≠ h.p.code then (h, 44)
  else if h.state = 1 then h.offered sig u
  else if u.ses ≠ h.ses ∨ h.state = 5 then (h, 130)
  else h.take u
def H.write (h : H) (l : List Int) (hold : Bool) : H × Int :=
  if (l.length : Int) ≠ h.p.out then (h, 45) else ({ h with value := l, hold := hold }, 0)
def H.tick (h : H) (n : Int) : H :=
  if barks h.p.watch h.since n then ({ h with since := ticked h.p.watch h.since n } : H).trip 100 else { h with since := ticked h.p.watch h.since n }
def H.ack (h : H) : H × Int := ({ h with v := h.v.ack }, if h.v.request then 0 else 110)
def H.see (h : H) : End := ⟨h.state, h.ses, h.num, h.sent, h.since, h.v.latched, h.v.request, h.v.on, h.v.out⟩
end
structure Mv where
  kind : Int
  conn : Int
  side : Int
  frame : Int
  at' : Int
  word : Int
  n : Int
  hold : Bool
  data : List Int
structure Cn where
  h : H
  d : D
  sig : List Int
structure Wd where
  cs : List Cn
  bag : List U
  moves : Int
def burstErr (n at' w : Int) : Int := if w = 0 ∨ at' < 0 ∨ at' > 8 * n - (Nat.log2 w.toNat + 1 : Nat) then 30 else 0
def U.size (u : U) : Int := 19 + u.data.length
def Wd.fault (x : Wd) (m : Mv) : Int :=
  if x.moves ≥ 4096 then 150
  else if m.kind < 1 ∨ m.kind > 8 then 170
  else if m.conn < 0 ∨ m.conn ≥ x.cs.length then 171
  else if m.kind ≠ 2 ∧ m.kind ≠ 8 ∧ m.side ≠ 1 ∧ m.side ≠ 2 then 172
  else if m.kind = 3 then (if m.frame < 0 ∨ m.frame ≥ x.bag.length then 151 else 0)
  else if m.kind = 4 then (if m.frame < 0 ∨ m.frame ≥ x.bag.length then 151 else burstErr (x.bag.getD m.frame.toNat U.zero).size m.at' m.word)
  else if m.kind = 5 then (if m.n < 0 ∨ m.n > 1048576 then 2 else 0)
  else if m.kind = 7 then (if m.n < 0 ∨ m.side = 1 ∧ m.n > 0 then 2 else 0)
  else if m.kind = 8 then (if m.n < 0 then 2 else 0)
  else 0
def Cn.deliver (c : Cn) (side : Int) (u : U) (e : Int) : Cn × Option U × Int :=
  if side = 1 then ({ c with h := (c.h.receive c.sig u e).1 }, none, (c.h.receive c.sig u e).2)
  else ({ c with d := (c.d.receive c.sig u e).1 }, (c.d.receive c.sig u e).2.1, (c.d.receive c.sig u e).2.2)
def Cn.play (c : Cn) (m : Mv) (u : U) : Cn × Option U × Int :=
  if m.kind = 1 then
    if m.side = 1 then ({ c with h := (c.h.write m.data m.hold).1 }, none, (c.h.write m.data m.hold).2)
    else ({ c with d := (c.d.write m.data m.hold).1 }, none, (c.d.write m.data m.hold).2)
  else if m.kind = 2 then ({ c with h := (c.h.send c.sig).1 }, (c.h.send c.sig).2.1, (c.h.send c.sig).2.2)
  else if m.kind = 3 then c.deliver m.side u 0
  else if m.kind = 4 then c.deliver m.side U.zero 42
  else if m.kind = 8 then ({ c with d := { c.d with m := c.d.m.arm m.n } }, none, 0)
  else if m.kind = 5 then
    if m.side = 1 then ({ c with h := c.h.tick m.n }, none, 0) else ({ c with d := (c.d.tick m.n).1 }, none, (c.d.tick m.n).2)
  else if m.kind = 6 then
    if m.side = 1 then ({ c with h := c.h.ack.1 }, none, c.h.ack.2) else ({ c with d := c.d.ack.1 }, none, c.d.ack.2)
  else
    if m.side = 1 then ({ c with h := H.new c.h.p }, none, 0) else ({ c with d := (c.d.reset m.n).1 }, none, (c.d.reset m.n).2)
structure Row where
  code : Int
  sent : Int
  host : End
  dev : End
def Cn.none : Cn := ⟨H.new ⟨0, 0, 0, 0, 0⟩, D.new ⟨0, 0, 0, 0, 0⟩ 0, []⟩
def Wd.cn (x : Wd) (k : Nat) : Cn := x.cs.getD k Cn.none
def Wd.step (x : Wd) (m : Mv) : Cn × Option U × Int := (x.cn m.conn.toNat).play m (x.bag.getD m.frame.toNat U.zero)
def Wd.next (x : Wd) (m : Mv) : Wd := ⟨x.cs.set m.conn.toNat (x.step m).1, x.bag ++ (x.step m).2.1.toList, x.moves + 1⟩
def Wd.row (x : Wd) (m : Mv) : Row :=
  ⟨(x.step m).2.2, if (x.step m).2.1.isSome then (x.bag.length : Int) else -1, (x.step m).1.h.see, (x.step m).1.d.see⟩
def Wd.play (x : Wd) (m : Mv) : Wd := if x.fault m = 0 then x.next m else x
end TM
namespace TM
open Go ValveC
def VI (v : V) : Prop := v.value ≠ none → v.running = true ∧ v.latched = 0
def VK (v v' : V) : Prop := v.latched ≠ 0 → v'.latched = v.latched
def VF (v v' : V) : Prop := v.fresh = false → v'.fresh = false
variable {v v' v'' : V}
theorem VK.refl : VK v v := fun _ => rfl
theorem VF.refl : VF v v := id
theorem VK.trans (h : VK v v') (k : VK v' v'') : VK v v'' := fun e => (k (by rw [h e]; exact e)).trans (h e)
theorem VF.trans (h : VF v v') (k : VF v' v'') : VF v v'' := fun e => k (h e)
theorem run_vk (q : Bool) : VK v (v.run q) := by unfold VK V.run; split <;> exact fun _ => rfl
theorem run_vf (q : Bool) : VF v (v.run q) := by unfold VF V.run; split <;> exact id
theorem trip_vk (c : Int) : VK v (v.trip c) := by
  intro h; unfold V.trip; split
  · rfl
  · simp [h]
theorem trip_vf (c : Int) : VF v (v.trip c) := by
  intro h; unfold V.trip; split
  · exact h
  · rfl
theorem come_vk : VK v v.come := fun _ => rfl
theorem take_vk (l : List Int) : VK v (v.take l) := by unfold VK V.take; split <;> exact fun _ => rfl
theorem holds_vk (q : Bool) : VK v (v.holds q) := fun _ => rfl
theorem VI.new (n : Int) : VI (V.new n) := fun h => absurd rfl h
theorem VI.run (h : VI v) (q : Bool) : VI (v.run q) := by
  unfold V.run; split
  · exact h
  · exact fun e => absurd rfl e
theorem VI.trip (h : VI v) (c : Int) : VI (v.trip c) := by
  unfold V.trip; split
  · exact h
  · exact fun e => absurd rfl e
theorem VI.come (h : VI v) : VI v.come := h
theorem VI.holds (h : VI v) (q : Bool) : VI (v.holds q) := h
theorem VI.take (h : VI v) (l : List Int) : VI (v.take l) := by
  unfold V.take; split
  · rename_i e; simp at e; exact fun _ => e
  · exact h
theorem VI.ack (h : VI v) : VI v.ack := by
  unfold V.ack; split
  · rename_i e; unfold V.request at e; simp at e
    intro q; exact absurd (h q).2 e.2.2
  · exact h
theorem run_running (q : Bool) : (v.run q).running = q := by unfold V.run; split <;> simp_all
theorem trip_running (c : Int) : (v.trip c).running = v.running := by unfold V.trip; split <;> rfl
theorem take_running (l : List Int) : (v.take l).running = v.running := by unfold V.take; split <;> rfl
theorem ack_running : v.ack.running = v.running := by unfold V.ack; split <;> rfl
theorem VI.on (h : VI v) (e : v.on = true) : v.running = true ∧ v.latched = 0 ∧ ∃ l, v.value = some l ∧ v.out = l := by
  have e' := e
  unfold V.on at e'
  simp at e'
  obtain ⟨h1, h2, h3⟩ := e'
  obtain ⟨l, hl⟩ := Option.isSome_iff_exists.1 h3
  refine ⟨h1, (h (by rw [hl]; simp)).2, l, hl, ?_⟩
  unfold V.out; rw [if_pos e, hl]; rfl
theorem trip_latched {c : Int} (hc : c ≠ 0) : (v.trip c).latched ≠ 0 ∧ (v.trip c).fresh = false := by
  unfold V.trip; rw [if_neg hc]
  refine ⟨?_, rfl⟩
  show (if v.latched = 0 then c else v.latched) ≠ 0
  split
  · exact hc
  · assumption
theorem ack_old (h : v.request = false) : v.ack = v := by unfold V.ack; rw [if_neg (by simp [h])]
structure HL (h : H) : Prop where
  vi : VI h.v
  run : h.v.running = true ↔ h.state = 4
variable {h : H} {d : D} {sig : List Int} {u : U}
theorem HL.not (q : HL h) (e : h.state ≠ 4) : h.v.running = false := by
  rcases hr : h.v.running with _ | _
  · rfl
  · exact absurd (q.run.1 hr) e
theorem HL.new (p : P) : HL (H.new p) := ⟨VI.new _, by simp [H.new, V.new]⟩
theorem HL.same {h' : H} (q : HL h) (e1 : h'.v = h.v) (e2 : h'.state = h.state) : HL h' := ⟨e1 ▸ q.vi, by rw [e1, e2]; exact q.run⟩
theorem HL.trip (q : HL h) (c : Int) : HL (h.trip c) := ⟨q.vi.trip c, by show (h.v.trip c).running = true ↔ _; rw [trip_running]; exact q.run⟩
theorem HL.stop {h' : H} {s : Int} (q : VI v) (hs : s ≠ 4) (e1 : h'.v = v.run false) (e2 : h'.state = s) : HL h' := ⟨e1 ▸ q.run false, by rw [e1, e2, run_running]; simp [hs]⟩
theorem HL.lost (q : HL h) : HL h.lost := by
  unfold H.lost
  split
  · exact q
  split
  · exact q.same rfl rfl
  split
  · exact HL.stop (s := 1) (q.vi.trip 131) (by decide) rfl rfl
  · exact HL.stop (s := 1) q.vi (by decide) rfl rfl
theorem HL.compose (q : HL h) : HL (h.compose sig).1 := by
  unfold H.compose
  split
  · exact q
  split
  · exact q
  split
  · exact q
  split
  · exact HL.stop (s := 5) (q.vi.trip 80) (by decide) rfl rfl
  · exact q.same rfl rfl
theorem HL.send (q : HL h) : HL (h.send sig).1 := by
  unfold H.send
  split
  · exact q
  · exact (HL.compose q.lost).same rfl rfl
theorem HL.offered (q : HL h) (h1 : h.state = 1) : HL (h.offered sig u).1 := by
  unfold H.offered
  split
  · exact q
  split
  · exact ⟨q.vi.come, by have := q.not (by omega); constructor <;> (intro e; first | (change h.v.running = true at e; simp [this] at e) | cases e)⟩
  · exact q
theorem HL.take (q : HL h) : HL (h.take u).1 := by
  unfold H.take
  split
  · rename_i e
    exact ⟨q.vi.come, by have := q.not (by omega); constructor <;> (intro e; first | (change h.v.running = true at e; simp [this] at e) | cases e)⟩
  split
  · exact ⟨(q.vi.run true).come, by show (h.v.run true).running = true ↔ _; rw [run_running]; simp [H.alive]⟩
  split
  · refine ⟨((q.vi.come).holds _).take _, ?_⟩
    show ((h.v.come.holds _).take _).running = true ↔ h.state = 4
    rw [take_running]
    exact q.run
  split
  · exact HL.stop (s := 5) (q.vi.come.trip 80) (by decide) rfl rfl
  · exact q
theorem HL.receive (q : HL h) (e : Int) : HL (h.receive sig u e).1 := by
  unfold H.receive
  split
  · exact q
  split
  · exact q
  split
  · exact q
  split
  · rename_i e; exact q.offered e
  split
  · exact q
  · exact q.take
theorem HL.tick (q : HL h) (n : Int) : HL (h.tick n) := by
  unfold H.tick
  split
  · exact HL.trip (h := { h with since := ticked h.p.watch h.since n }) ⟨q.vi, q.run⟩ 100
  · exact ⟨q.vi, q.run⟩
theorem HL.ack (q : HL h) : HL h.ack.1 := ⟨q.vi.ack, by show h.v.ack.running = true ↔ _; rw [ack_running]; exact q.run⟩
theorem HL.write (q : HL h) (l : List Int) (hb : Bool) : HL (h.write l hb).1 := by
  unfold H.write; split
  · exact q
  · exact ⟨q.vi, q.run⟩
structure HS (h h' : H) : Prop where
  p : h'.p = h.p
  k : VK h.v h'.v
  s : (h'.since = h.since ∧ VF h.v h'.v) ∨ h'.since = 0
theorem HS.refl : HS h h := ⟨rfl, VK.refl, .inl ⟨rfl, VF.refl⟩⟩
theorem HS.trans {h' h'' : H} (a : HS h h') (b : HS h' h'') : HS h h'' :=
  ⟨b.p.trans a.p, a.k.trans b.k, by
    rcases b.s with ⟨b1, b2⟩ | b1
    · rcases a.s with ⟨a1, a2⟩ | a1
      · exact .inl ⟨b1.trans a1, a2.trans b2⟩
      · exact .inr (b1.trans a1)
    · exact .inr b1⟩
theorem HS.lost : HS h h.lost ∧ h.lost.since = h.since := by
  unfold H.lost
  split
  · exact ⟨HS.refl, rfl⟩
  split
  · exact ⟨⟨rfl, VK.refl, .inl ⟨rfl, VF.refl⟩⟩, rfl⟩
  split
  · exact ⟨⟨rfl, (trip_vk 131).trans (run_vk false), .inl ⟨rfl, (trip_vf 131).trans (run_vf false)⟩⟩, rfl⟩
  · exact ⟨⟨rfl, run_vk false, .inl ⟨rfl, run_vf false⟩⟩, rfl⟩
theorem HS.compose : HS h (h.compose sig).1 ∧ (h.compose sig).1.since = h.since := by
  unfold H.compose
  split
  · exact ⟨HS.refl, rfl⟩
  split
  · exact ⟨HS.refl, rfl⟩
  split
  · exact ⟨HS.refl, rfl⟩
  split
  · exact ⟨⟨rfl, (trip_vk 80).trans (run_vk false), .inl ⟨rfl, (trip_vf 80).trans (run_vf false)⟩⟩, rfl⟩
  · exact ⟨⟨rfl, VK.refl, .inl ⟨rfl, VF.refl⟩⟩, rfl⟩
theorem HS.send : HS h (h.send sig).1 ∧ (h.send sig).1.since = h.since := by
  unfold H.send
  split
  · exact ⟨HS.refl, rfl⟩
  · obtain ⟨a, a2⟩ := HS.lost (h := h)
    obtain ⟨b, b2⟩ := HS.compose (h := h.lost) (sig := sig)
    have c := a.trans b
    exact ⟨⟨c.p, c.k, c.s⟩, b2.trans a2⟩
theorem HS.offered : HS h (h.offered sig u).1 ∧ ((h.offered sig u).2 = 0 ∨ (h.offered sig u).1 = h) := by
  unfold H.offered
  split
  · exact ⟨HS.refl, .inr rfl⟩
  split
  · exact ⟨⟨rfl, come_vk, .inr rfl⟩, .inl rfl⟩
  · exact ⟨HS.refl, .inr rfl⟩
theorem HS.take : HS h (h.take u).1 ∧ ((h.take u).2 = 0 ∨ (h.take u).1 = h) := by
  unfold H.take
  split
  · exact ⟨⟨rfl, come_vk, .inr rfl⟩, .inl rfl⟩
  split
  · exact ⟨⟨rfl, (run_vk true).trans come_vk, .inr rfl⟩, .inl rfl⟩
  split
  · exact ⟨⟨rfl, (come_vk.trans (holds_vk _)).trans (take_vk _), .inr rfl⟩, .inl rfl⟩
  split
  · exact ⟨⟨rfl, (come_vk.trans (trip_vk 80)).trans (run_vk false), .inr rfl⟩, .inl rfl⟩
  · exact ⟨HS.refl, .inr rfl⟩
theorem HS.receive (e : Int) : HS h (h.receive sig u e).1 ∧ ((h.receive sig u e).2 = 0 ∨ (h.receive sig u e).1 = h) := by
  unfold H.receive
  split
  · exact ⟨HS.refl, .inr rfl⟩
  split
  · exact ⟨HS.refl, .inr rfl⟩
  split
  · exact ⟨HS.refl, .inr rfl⟩
  split
  · exact HS.offered
  split
  · exact ⟨HS.refl, .inr rfl⟩
  · exact HS.take
theorem HS.write (l : List Int) (hb : Bool) : HS h (h.write l hb).1 ∧ (h.write l hb).1.since = h.since := by
  unfold H.write; split
  · exact ⟨HS.refl, rfl⟩
  · exact ⟨⟨rfl, VK.refl, .inl ⟨rfl, VF.refl⟩⟩, rfl⟩
structure DL (d : D) : Prop where
  vi : VI d.v
  run : d.v.running = true ↔ d.state = 4
theorem DL.not (q : DL d) (e : d.state ≠ 4) : d.v.running = false := by
  rcases hr : d.v.running with _ | _
  · rfl
  · exact absurd (q.run.1 hr) e
theorem DL.fresh {d' : D} {s : Int} (hs : s ≠ 4) (n : Int) (e1 : d'.v = V.new n) (e2 : d'.state = s) : DL d' := ⟨e1 ▸ VI.new _, by rw [e1, e2]; simp [V.new, hs]⟩
theorem DL.same {d' : D} (q : DL d) (e1 : d'.v = d.v) (e2 : d'.state = d.state) : DL d' := ⟨e1 ▸ q.vi, by rw [e1, e2]; exact q.run⟩
theorem DL.trip (q : DL d) (c : Int) : DL (d.trip c) := ⟨q.vi.trip c, by show (d.v.trip c).running = true ↔ _; rw [trip_running]; exact q.run⟩
theorem DL.stop {d' : D} {s : Int} (q : VI v) (hs : s ≠ 4) (e1 : d'.v = v.run false) (e2 : d'.state = s) : DL d' := ⟨e1 ▸ q.run false, by rw [e1, e2, run_running]; simp [hs]⟩
theorem DL.leave (q : VI d.v) {s : Int} (hs : s ≠ 4) : DL (d.leave s) := DL.stop q hs rfl rfl
structure DS (d d' : D) : Prop where
  p : d'.p = d.p
  k : VK d.v d'.v
  s : (d'.since = d.since ∧ VF d.v d'.v) ∨ d'.since = 0
theorem DS.refl : DS d d := ⟨rfl, VK.refl, .inl ⟨rfl, VF.refl⟩⟩
theorem DS.trans {d' d'' : D} (a : DS d d') (b : DS d' d'') : DS d d'' :=
  ⟨b.p.trans a.p, a.k.trans b.k, by
    rcases b.s with ⟨b1, b2⟩ | b1
    · rcases a.s with ⟨a1, a2⟩ | a1
      · exact .inl ⟨b1.trans a1, a2.trans b2⟩
      · exact .inr (b1.trans a1)
    · exact .inr b1⟩
theorem DL.stuck (q : DL d) : DL d.stuck.1 := by
  unfold D.stuck
  split
  · split
    · exact q.same rfl rfl
    split
    · exact DL.leave (d := ({ d with odd := d.odd + 1 } : D).trip 131) (q.vi.trip 131) (by decide)
    · exact DL.leave (d := { d with odd := d.odd + 1 }) q.vi (by decide)
  · exact q
theorem DS.stuck : DS d d.stuck.1 ∧ d.stuck.1.since = d.since := by
  unfold D.stuck
  split
  · split
    · exact ⟨⟨rfl, VK.refl, .inl ⟨rfl, VF.refl⟩⟩, rfl⟩
    split
    · exact ⟨⟨rfl, (trip_vk 131).trans (run_vk false), .inl ⟨rfl, (trip_vf 131).trans (run_vf false)⟩⟩, rfl⟩
    · exact ⟨⟨rfl, run_vk false, .inl ⟨rfl, run_vf false⟩⟩, rfl⟩
  · exact ⟨DS.refl, rfl⟩
structure Dn (d d' : D) : Prop where
  p : d'.p = d.p
  v : d'.v = V.new d.p.out
  since : d'.since = 0
  ses : d'.ses = 0
def DT (d : D) (r : D × Option U × Int) : Prop := (DS d r.1 ∧ (r.2.2 = 0 ∨ r.1.since = d.since)) ∨ (Dn d r.1 ∧ r.1.state = 6 ∧ r.2.2 = 70)
theorem DL.begin (q : DL d) : DL (d.begin sig).1 := by
  unfold D.begin
  split
  · exact DL.leave (q.vi.trip 80) (by decide)
  split
  · exact (DL.leave (d := { d with c := (d.c.next d.m).1, m := (d.c.next d.m).2.1 }) (s := 2) q.vi (by decide)).same rfl rfl
  · exact DL.fresh (s := 6) (by decide) _ rfl rfl
theorem DT.begin : DT d (d.begin sig) := by
  unfold D.begin
  split
  · exact .inl ⟨⟨rfl, (trip_vk 80).trans (run_vk false), .inl ⟨rfl, (trip_vf 80).trans (run_vf false)⟩⟩, .inr rfl⟩
  split
  · exact .inl ⟨⟨rfl, run_vk false, .inl ⟨rfl, run_vf false⟩⟩, .inl rfl⟩
  · exact .inr ⟨⟨rfl, rfl, rfl, rfl⟩, rfl, rfl⟩
theorem DT.behind {d' : D} {r : D × Option U × Int} (a : DS d d') (e : d'.since = d.since) (b : DT d' r) : DT d r := by
  rcases b with ⟨b1, b2⟩ | ⟨b1, b2⟩
  · exact .inl ⟨a.trans b1, b2.imp id (fun q => q.trans e)⟩
  · exact .inr ⟨⟨b1.p.trans a.p, b1.v.trans (by rw [a.p]), b1.since, b1.ses⟩, b2⟩
theorem DL.odds (q : DL d) (e : Int) : DL (d.odds e).1 := q.stuck
theorem DT.odds (e : Int) : DT d (d.odds e) := .inl ⟨DS.stuck.1, .inr DS.stuck.2⟩
theorem DL.asked (q : DL d) : DL (d.asked sig u).1 := by
  unfold D.asked
  split
  · split
    · split
      · exact q.stuck.begin
      split
      · exact q.stuck
      · exact q.stuck
    · exact q.begin
  · exact q.odds 91
theorem DT.asked : DT d (d.asked sig u) := by
  unfold D.asked
  split
  · split
    · split
      · exact DT.behind DS.stuck.1 DS.stuck.2 DT.begin
      split
      · exact .inl ⟨DS.stuck.1, .inr DS.stuck.2⟩
      · exact .inl ⟨DS.stuck.1, .inr DS.stuck.2⟩
    · exact DT.begin
  · exact DT.odds 91
theorem DL.agree (q : DL d) : DL d.agree := by
  unfold D.agree; split
  · exact ⟨q.vi.come, by have := q.not (by omega); constructor <;> (intro e; first | (change d.v.running = true at e; simp [this] at e) | cases e)⟩
  · exact q
theorem DS.agree : DS d d.agree := by
  unfold D.agree; split
  · exact ⟨rfl, come_vk, .inr rfl⟩
  · exact DS.refl
theorem DL.go (q : DL d) : DL d.go := by
  unfold D.go; split
  · exact ⟨(q.vi.run true).come, by show (d.v.run true).running = true ↔ _; rw [run_running]; simp [D.alive]⟩
  · exact q
theorem DS.go : DS d d.go := by
  unfold D.go; split
  · exact ⟨rfl, (run_vk true).trans come_vk, .inr rfl⟩
  · exact DS.refl
theorem DL.take (q : DL d) : DL (d.take sig u).1 := by
  unfold D.take
  split
  · exact q.asked
  split
  · unfold D.echoed; split
    · exact q.agree
    · exact q.odds 91
  split
  · exact q.go
  split
  · refine ⟨((q.vi.come).holds _).take _, ?_⟩
    show ((d.v.come.holds _).take _).running = true ↔ d.state = 4
    rw [take_running]; exact q.run
  split
  · exact DL.stop (s := 5) (q.vi.come.trip 80) (by decide) rfl rfl
  · exact q.odds 130
theorem DT.take : DT d (d.take sig u) := by
  unfold D.take
  split
  · exact DT.asked
  split
  · unfold D.echoed; split
    · exact .inl ⟨DS.agree, .inl rfl⟩
    · exact DT.odds 91
  split
  · exact .inl ⟨DS.go, .inl rfl⟩
  split
  · exact .inl ⟨⟨rfl, (come_vk.trans (holds_vk _)).trans (take_vk _), .inr rfl⟩, .inl rfl⟩
  split
  · exact .inl ⟨⟨rfl, (come_vk.trans (trip_vk 80)).trans (run_vk false), .inr rfl⟩, .inl rfl⟩
  · exact DT.odds 130
theorem DL.receive (q : DL d) (e : Int) : DL (d.receive sig u e).1 := by
  unfold D.receive
  split
  · exact q
  split
  · exact q
  split
  · exact q
  split
  · exact q
  · exact q.take
theorem DT.same (e : Int) (o : Option U) : DT d (d, o, e) := .inl ⟨DS.refl, .inr rfl⟩
theorem DT.receive (e : Int) : DT d (d.receive sig u e) := by
  unfold D.receive
  split
  · exact DT.same _ _
  split
  · exact DT.same _ _
  split
  · exact DT.same _ _
  split
  · exact DT.same _ _
  · exact DT.take
theorem DL.tick (q : DL d) (n : Int) : DL (d.tick n).1 := by
  unfold D.tick
  split
  · exact q
  · dsimp only
    split
    · exact DL.trip (d := { d with since := ticked d.p.watch d.since n }) ⟨q.vi, q.run⟩ 100
    · exact ⟨q.vi, q.run⟩
theorem DL.ack (q : DL d) : DL d.ack.1 := by
  unfold D.ack
  split
  · exact q
  · exact ⟨q.vi.ack, by show d.v.ack.running = true ↔ _; rw [ack_running]; exact q.run⟩
theorem DL.write (q : DL d) (l : List Int) (hb : Bool) : DL (d.write l hb).1 := by
  unfold D.write
  split
  · exact q
  split
  · exact q
  · exact ⟨q.vi, q.run⟩
theorem DS.write (l : List Int) (hb : Bool) : DS d (d.write l hb).1 ∧ (d.write l hb).1.since = d.since := by
  unfold D.write
  split
  · exact ⟨DS.refl, rfl⟩
  split
  · exact ⟨DS.refl, rfl⟩
  · exact ⟨⟨rfl, VK.refl, .inl ⟨rfl, VF.refl⟩⟩, rfl⟩
theorem Dn.reset (n : Int) : Dn d (d.reset n).1 ∧ ((d.reset n).1.state = 1 ∨ (d.reset n).1.state = 6) := by
  unfold D.reset
  split
  · exact ⟨⟨rfl, rfl, rfl, rfl⟩, .inl rfl⟩
  · exact ⟨⟨rfl, rfl, rfl, rfl⟩, .inr rfl⟩
theorem DL.reset (n : Int) : DL (d.reset n).1 := by
  obtain ⟨a, b⟩ := Dn.reset (d := d) n
  rcases b with b | b
  · exact DL.fresh (s := 1) (by decide) _ a.v b
  · exact DL.fresh (s := 6) (by decide) _ a.v b
end TM
namespace TM
open Go ValveC
variable {h h' : H} {d d' : D} {sig : List Int} {u : U} {s s' : Int} {c : Cn} {m : Mv} {v v' : V}
structure Wt (watch s since : Int) (v : V) : Prop where
  lo : 0 ≤ since
  ct : s ≤ since ∨ watch ≤ since
  wt : watch ≤ since → v.latched ≠ 0 ∧ v.fresh = false
theorem Wt.zero {w : Int} (hw : 1 ≤ w) : Wt w 0 0 v := ⟨Int.le_refl _, .inl (Int.le_refl _), fun e => by omega⟩
theorem Wt.same {w e : Int} (q : Wt w s e v) (hw : 1 ≤ w) {e' : Int} (k : VK v v') (a : (e' = e ∧ VF v v') ∨ e' = 0) (hs : s' = 0 ∨ (s' = s ∧ e' = e)) : Wt w s' e' v' := by
  rcases a with ⟨rfl, a⟩ | rfl
  · refine ⟨q.lo, ?_, fun e => ?_⟩
    · rcases hs with rfl | ⟨rfl, _⟩
      · exact .inl q.lo
      · exact q.ct
    · have := q.wt e; exact ⟨by rw [k this.1]; exact this.1, a this.2⟩
  · refine ⟨Int.le_refl _, ?_, fun e => by omega⟩
    rcases hs with rfl | ⟨rfl, e⟩
    · exact .inl (Int.le_refl _)
    · have := q.ct; rw [← e] at this; exact this
theorem Wt.tick {w e n : Int} (q : Wt w s e v) (hw : 1 ≤ w) (hw2 : w ≤ 1048576) (hn : 0 ≤ n) : Wt w (min 1073741824 (s + n)) (ticked w e n) (if barks w e n then v.trip 100 else v) := by
  have h1 := q.lo
  have h2 := q.ct
  have h3 := q.wt
  unfold ticked barks
  by_cases g1 : e ≥ w
  · rw [if_pos g1, if_neg (by simp; omega)]
    exact ⟨h1, .inr g1, h3⟩
  · rw [if_neg g1]
    by_cases g2 : n ≥ w - e
    · rw [if_pos (by simp; omega)]
      exact ⟨by omega, .inr (by omega), fun _ => trip_latched (by decide)⟩
    · rw [if_neg (by simp; omega)]
      exact ⟨by omega, .inl (by omega), fun e => by omega⟩
theorem Wt.ack {w e : Int} (q : Wt w s e v) : Wt w s e v.ack := ⟨q.lo, q.ct, fun e => by
  have := q.wt e
  rw [ack_old (by unfold V.request; simp [this.2])]; exact this⟩
def cnt (side : Int) (m : Mv) (code s : Int) : Int :=
  if m.side = side then
    if m.kind = 3 ∨ m.kind = 4 then (if code = 0 ∨ code = 70 then 0 else s)
    else if m.kind = 7 then 0
    else if m.kind = 5 then (if code = 0 then min 1073741824 (s + m.n) else s)
    else s
  else s
structure WtC (a b : Int) (c : Cn) : Prop where
  h : Wt c.h.p.watch a c.h.since c.h.v
  d : Wt c.d.p.watch b c.d.since c.d.v
  wh : 1 ≤ c.h.p.watch ∧ c.h.p.watch ≤ 1048576
  wd : 1 ≤ c.d.p.watch ∧ c.d.p.watch ≤ 1048576
theorem tick_p (n : Int) : (h.tick n).p = h.p := by unfold H.tick; split <;> rfl
theorem dtick_p (n : Int) : (d.tick n).1.p = d.p := by unfold D.tick; split <;> (try split) <;> rfl
theorem Wt.htick {n : Int} (q : Wt h.p.watch s h.since h.v) (hw : 1 ≤ h.p.watch ∧ h.p.watch ≤ 1048576) (hn : 0 ≤ n) : Wt (h.tick n).p.watch (min 1073741824 (s + n)) (h.tick n).since (h.tick n).v := by
  have := q.tick hw.1 hw.2 hn
  rw [tick_p]
  unfold H.tick
  split
  · rename_i e; rw [if_pos e] at this; exact this
  · rename_i e; rw [if_neg e] at this; exact this
theorem Wt.dtick {n : Int} (q : Wt d.p.watch s d.since d.v) (hw : 1 ≤ d.p.watch ∧ d.p.watch ≤ 1048576) (hn : 0 ≤ n) : Wt (d.tick n).1.p.watch (if (d.tick n).2 = 0 then min 1073741824 (s + n) else s) (d.tick n).1.since (d.tick n).1.v := by
  have := q.tick hw.1 hw.2 hn
  rw [dtick_p]
  unfold D.tick
  split
  · exact q
  · dsimp only
    rw [if_pos rfl]
    split
    · rename_i e; rw [if_pos e] at this; exact this
    · rename_i e; rw [if_neg e] at this; exact this
theorem Wt.hs (q : Wt h.p.watch s h.since h.v) (hw : 1 ≤ h.p.watch) (a : HS h h') (hs : s' = 0 ∨ (s' = s ∧ h'.since = h.since)) : Wt h'.p.watch s' h'.since h'.v := by
  rw [a.p]; exact q.same hw a.k a.s hs
theorem Wt.ds (q : Wt d.p.watch s d.since d.v) (hw : 1 ≤ d.p.watch) (a : DS d d') (hs : s' = 0 ∨ (s' = s ∧ d'.since = d.since)) : Wt d'.p.watch s' d'.since d'.v := by
  rw [a.p]; exact q.same hw a.k a.s hs
theorem Wt.dt {r : D × Option U × Int} (q : Wt d.p.watch s d.since d.v) (hw : 1 ≤ d.p.watch) (a : DT d r) : Wt r.1.p.watch (if r.2.2 = 0 ∨ r.2.2 = 70 then 0 else s) r.1.since r.1.v := by
  rcases a with ⟨a, b⟩ | ⟨a, b, e⟩
  · refine q.ds hw a ?_
    split
    · exact .inl rfl
    · rename_i n
      refine .inr ⟨rfl, b.resolve_left (fun e => n (.inl e))⟩
  · rw [a.p, a.v, a.since, if_pos (.inr e)]; exact Wt.zero hw
theorem dack_p : d.ack.1.p = d.p := by unfold D.ack; split <;> rfl
theorem dack_since : d.ack.1.since = d.since := by unfold D.ack; split <;> rfl
theorem dack_v : d.ack.1.v = d.v ∨ d.ack.1.v = d.v.ack := by unfold D.ack; split; exact .inl rfl; exact .inr rfl
theorem WtC.play {a b : Int} (q : WtC a b c) (hs : m.kind ≠ 2 → m.kind ≠ 8 → m.side = 1 ∨ m.side = 2) (hk : 1 ≤ m.kind ∧ m.kind ≤ 8) (hn : m.kind = 5 → 0 ≤ m.n) :
    WtC (cnt 1 m (c.play m u).2.2 a) (cnt 2 m (c.play m u).2.2 b) (c.play m u).1 := by
  have Hh : ∀ {h' : H} {s' : Int}, Wt h'.p.watch s' h'.since h'.v → h'.p = c.h.p → ∀ {t : Int}, t = b → WtC s' t { c with h := h' } := fun w e t ht => ⟨w, ht ▸ q.d, by show 1 ≤ _ ∧ _; rw [show ({ c with h := _ } : Cn).h.p = c.h.p from e]; exact q.wh, q.wd⟩
  have Hd : ∀ {d' : D} {s' : Int}, Wt d'.p.watch s' d'.since d'.v → d'.p = c.d.p → ∀ {t : Int}, t = a → WtC t s' { c with d := d' } := fun w e t ht => ⟨ht ▸ q.h, w, q.wh, by show 1 ≤ _ ∧ _; rw [show ({ c with d := _ } : Cn).d.p = c.d.p from e]; exact q.wd⟩
  unfold Cn.play Cn.deliver cnt
  rcases hk with ⟨k1, k2⟩
  by_cases e1 : m.kind = 1
  · simp only [e1, if_pos, if_true, show ¬ ((1 : Int) = 3 ∨ (1 : Int) = 4) by decide, show ¬ ((1 : Int) = 7) by decide, show ¬ ((1 : Int) = 5) by decide, if_false, ite_self]
    split
    · exact Hh (q.h.hs q.wh.1 (HS.write _ _).1 (.inr ⟨rfl, (HS.write _ _).2⟩)) (HS.write _ _).1.p rfl
    · exact Hd (q.d.ds q.wd.1 (DS.write _ _).1 (.inr ⟨rfl, (DS.write _ _).2⟩)) (DS.write _ _).1.p rfl
  by_cases e2 : m.kind = 2
  · simp only [e2, show ¬ ((2 : Int) = 1) by decide, show ¬ ((2 : Int) = 3 ∨ (2 : Int) = 4) by decide, show ¬ ((2 : Int) = 7) by decide, show ¬ ((2 : Int) = 5) by decide, if_false, if_true, ite_self]
    exact Hh (q.h.hs q.wh.1 HS.send.1 (.inr ⟨rfl, HS.send.2⟩)) HS.send.1.p rfl
  by_cases e8 : m.kind = 8
  · simp only [e8, show ¬ ((8 : Int) = 1) by decide, show ¬ ((8 : Int) = 2) by decide, show ¬ ((8 : Int) = 3) by decide, show ¬ ((8 : Int) = 4) by decide, show ¬ ((8 : Int) = 7) by decide, show ¬ ((8 : Int) = 5) by decide, or_self, if_false, if_true, ite_self]
    exact Hd (d' := { c.d with m := c.d.m.arm m.n }) q.d rfl rfl
  have hs' := hs e2 e8
  have recvH : ∀ (u : U) (e : Int), m.side = 1 → WtC (if (c.h.receive c.sig u e).2 = 0 ∨ (c.h.receive c.sig u e).2 = 70 then 0 else a) b { c with h := (c.h.receive c.sig u e).1 } := fun u e _ => by
    refine Hh (q.h.hs q.wh.1 (HS.receive e).1 ?_) (HS.receive e).1.p rfl
    split
    · exact .inl rfl
    · rename_i n
      refine .inr ⟨rfl, ?_⟩
      rcases (HS.receive (h := c.h) (sig := c.sig) (u := u) e).2 with r | r
      · exact absurd (.inl r) n
      · rw [r]
  have recvD : ∀ (u : U) (e : Int), WtC a (if (c.d.receive c.sig u e).2.2 = 0 ∨ (c.d.receive c.sig u e).2.2 = 70 then 0 else b) { c with d := (c.d.receive c.sig u e).1 } := fun u e => by
    refine Hd (q.d.dt q.wd.1 (DT.receive e)) ?_ rfl
    rcases DT.receive (d := c.d) (sig := c.sig) (u := u) e with r | r
    · exact r.1.p
    · exact r.1.p
  by_cases e3 : m.kind = 3
  · simp only [e3, show ¬ ((3 : Int) = 1) by decide, show ¬ ((3 : Int) = 2) by decide, if_false, if_true, true_or]
    rcases hs' with e | e
    · simp only [e, if_true, show ¬ ((1 : Int) = 2) by decide, if_false]; exact recvH u 0 e
    · simp only [e, if_true, show ¬ ((2 : Int) = 1) by decide, if_false]; exact recvD u 0
  by_cases e4 : m.kind = 4
  · simp only [e4, show ¬ ((4 : Int) = 1) by decide, show ¬ ((4 : Int) = 2) by decide, show ¬ ((4 : Int) = 3) by decide, if_false, if_true, or_true]
    rcases hs' with e | e
    · simp only [e, if_true, show ¬ ((1 : Int) = 2) by decide, if_false]; exact recvH U.zero 42 e
    · simp only [e, if_true, show ¬ ((2 : Int) = 1) by decide, if_false]; exact recvD U.zero 42
  by_cases e5 : m.kind = 5
  · simp only [e5, show ¬ ((5 : Int) = 1) by decide, show ¬ ((5 : Int) = 2) by decide, show ¬ ((5 : Int) = 3) by decide, show ¬ ((5 : Int) = 4) by decide, show ¬ ((5 : Int) = 8) by decide, show ¬ ((5 : Int) = 7) by decide, or_self, if_false, if_true]
    rcases hs' with e | e
    · simp only [e, if_true, show ¬ ((1 : Int) = 2) by decide, if_false]
      exact Hh (q.h.htick q.wh (hn e5)) (tick_p _) rfl
    · simp only [e, if_true, show ¬ ((2 : Int) = 1) by decide, if_false]
      exact Hd (q.d.dtick q.wd (hn e5)) (dtick_p _) rfl
  by_cases e6 : m.kind = 6
  · simp only [e6, show ¬ ((6 : Int) = 1) by decide, show ¬ ((6 : Int) = 2) by decide, show ¬ ((6 : Int) = 3) by decide, show ¬ ((6 : Int) = 4) by decide, show ¬ ((6 : Int) = 8) by decide, show ¬ ((6 : Int) = 7) by decide, show ¬ ((6 : Int) = 5) by decide, or_self, if_false, if_true, ite_self]
    rcases hs' with e | e
    · simp only [e, if_true]
      exact Hh (h' := c.h.ack.1) q.h.ack rfl rfl
    · simp only [e, show ¬ ((2 : Int) = 1) by decide, if_false]
      refine Hd ?_ dack_p rfl
      rw [dack_p, dack_since]
      rcases dack_v (d := c.d) with r | r
      · rw [r]; exact q.d
      · rw [r]; exact q.d.ack
  have e7 : m.kind = 7 := by omega
  simp only [e7, show ¬ ((7 : Int) = 1) by decide, show ¬ ((7 : Int) = 2) by decide, show ¬ ((7 : Int) = 3) by decide, show ¬ ((7 : Int) = 4) by decide, show ¬ ((7 : Int) = 8) by decide, show ¬ ((7 : Int) = 6) by decide, show ¬ ((7 : Int) = 5) by decide, or_self, if_false, if_true]
  rcases hs' with e | e
  · simp only [e, if_true, show ¬ ((1 : Int) = 2) by decide, if_false]
    exact Hh (h' := H.new c.h.p) (Wt.zero q.wh.1) rfl rfl
  · simp only [e, if_true, show ¬ ((2 : Int) = 1) by decide, if_false]
    have r := (Dn.reset (d := c.d) m.n).1
    refine Hd ?_ r.p rfl
    rw [r.p, r.since, r.v]; exact Wt.zero q.wd.1
theorem Wt.told {w e : Int} (q : Wt w s e v) (vi : VI v) (hs : w ≤ s) : v.on = false ∧ v.latched ≠ 0 := by
  have h1 : w ≤ e := by have := q.ct; omega
  have h2 := q.wt h1
  refine ⟨?_, h2.1⟩
  rcases ho : v.on with _ | _
  · rfl
  · exact absurd (vi.on ho).2.1 h2.1
structure LC (c : Cn) : Prop where
  h : HL c.h
  d : DL c.d
theorem LC.play (q : LC c) : LC (c.play m u).1 := by
  unfold Cn.play Cn.deliver
  repeat' split
  all_goals first
    | exact ⟨q.h.write _ _, q.d⟩
    | exact ⟨q.h, q.d.write _ _⟩
    | exact ⟨q.h.send, q.d⟩
    | exact ⟨q.h.receive _, q.d⟩
    | exact ⟨q.h, q.d.receive _⟩
    | exact ⟨q.h.tick _, q.d⟩
    | exact ⟨q.h, q.d.tick _⟩
    | exact ⟨q.h.ack, q.d⟩
    | exact ⟨q.h, q.d.ack⟩
    | exact ⟨HL.new _, q.d⟩
    | exact ⟨q.h, DL.reset _⟩
    | exact ⟨q.h, q.d.same rfl rfl⟩
end TM
end Go.Proofs.YtinaliblnihpbaaGreat
