/- Contracts of passive's calls. -/
import Derived.Test.YtlafkeijikbenabGateC
import Derived.Test.YtlafkeijikbenabSl
namespace Go.Proofs.Ytlafkeijikbenab.ValveC
open Go Go.RowKit Go.Proofs.Ytlafkeijikbenab.Hp Go.Proofs.Ytlafkeijikbenab.Atom Go.Proofs.Ytlafkeijikbenab.GateC Go.Proofs.Ytlafkeijikbenab.Sl
set_option linter.unusedVariables false
set_option linter.unusedSimpArgs false
/-- What a valve holds. -/
structure V where
  n : Int
  running : Bool
  fresh : Bool
  hold : Bool
  latched : Int
  value : Option (List Int)
def V.new (n : Int) : V := ⟨n, false, false, false, 0, none⟩
/-- The slice that shows an optional row. -/
def Val (w : World) (s : Value) : Option (List Int) → Prop
  | none => s = .slice none 0 0
  | some l => l.length ≤ 8 ∧ ∃ k, Own w k s l
def IsV (w : World) (v g o : Nat) (x : V) : Prop :=
  ∃ s t, Has w v 83 [.int .i64 x.n, .pointer (some ⟨g, 0, none⟩), .bool x.running, .bool x.fresh, .bool x.hold, s] ∧ IsG w g o ⟨x.latched, decide (x.latched ≠ 0), t⟩ ∧ Val w s x.value
theorem Own.ne {w : World} {k b : Nat} {s : Value} {l : List Int} {T : TypeId} {cs : List Value} (h : Own w k s l) (h' : Has w b T cs) (hT : 5 ≠ T) : k ≠ b := by
  obtain ⟨_, _, _, h, _⟩ := h; exact Has.ne h h' hT
theorem Val.kept {w w' : World} {s : Value} {l : Option (List Int)} {S : List Nat} (h : Val w s l) (k : Kept S w w') (hS : ∀ b, b ∈ S → b < w.heap.size → ∃ T cs, Has w b T cs ∧ T ≠ 5) : Val w' s l := by
  cases l with
  | none => exact h
  | some l =>
    obtain ⟨hl, b, h⟩ := h
    refine ⟨hl, b, h.kept k ?_⟩
    intro hb
    obtain ⟨T, cs, hh, hT⟩ := hS b hb h.lt
    exact Own.ne h hh (fun e => hT e.symm) rfl
theorem IsV.kept {w w' : World} {v g o : Nat} {x : V} {S : List Nat} (h : IsV w v g o x) (k : Kept S w w') (hS : ∀ b, b ∈ S → w.heap.size ≤ b) : IsV w' v g o x := by
  obtain ⟨s, t, h1, h2, h3⟩ := h
  have n : ∀ b, b < w.heap.size → b ∉ S := fun b hb hm => by have := hS b hm; omega
  exact ⟨s, t, k.has h1 (n _ h1.lt), h2.kept k (n _ h2.1.lt) (n _ h2.2.lt), h3.kept k (fun b hb hl => absurd hb (n _ hl))⟩
/-- The same, where S names blocks of other kinds. -/
theorem IsV.kept2 {w w' : World} {v g o : Nat} {x : V} {S : List Nat} (h : IsV w v g o x) (k : Kept S w w') (hS : ∀ b, b ∈ S → b < w.heap.size → ∃ T cs, Has w b T cs ∧ T ≠ 5 ∧ T ≠ 83 ∧ T ≠ 116 ∧ T ≠ 111) : IsV w' v g o x := by
  obtain ⟨s, t, h1, h2, h3⟩ := h
  refine ⟨s, t, k.has h1 ?_, h2.kept k ?_ ?_, h3.kept k (fun b hb hl => by obtain ⟨T, cs, q, n, _⟩ := hS b hb hl; exact ⟨T, cs, q, n⟩)⟩
  · intro hb; obtain ⟨T, cs, q, n1, n2, n3, n4⟩ := hS _ hb h1.lt; exact Has.ne h1 q (fun e => n2 e.symm) rfl
  · intro hb; obtain ⟨T, cs, q, n1, n2, n3, n4⟩ := hS _ hb h2.1.lt; exact Has.ne h2.1 q (fun e => n3 e.symm) rfl
  · intro hb; obtain ⟨T, cs, q, n1, n2, n3, n4⟩ := hS _ hb h2.2.lt; exact Has.ne h2.2 q (fun e => n4 e.symm) rfl

theorem new_call (n : Int) (h1 : 1 ≤ n) (h8 : n ≤ 8) (w : World) : Calls Try.prog 14 #[.int .i64 n] w fun e w' => ∃ v g o, e = .returned (.tuple #[.pointer (some ⟨v, 0, none⟩), .int .i64 0]) ∧ Kept [] w w' ∧ IsV w' v g o (V.new n) ∧ w.heap.size ≤ v ∧ w.heap.size ≤ g ∧ w.heap.size ≤ o := by
  have e1 : decide (n < 1) = false := by simpa using h1
  have e2 : decide (n > 8) = false := by simpa using h8
  go_enter Try.func14, Try.ntmps14
  go_wp2_with fail
  refine (GateC.new_call _).mono ?_
  rintro e w2 ⟨rfl, k2, h2, hsz⟩
  go_wp2
  go_ret2
  have hh := Has.new w2 83 [.int .i64 n, .pointer (some ⟨w.heap.size + 1, 0, none⟩), .bool false, .bool false, .bool false, .slice none 0 0]
  refine ⟨_, _, _, rfl, k2.alloc _, ⟨_, _, hh, ⟨h2.1.alloc _, h2.2.alloc _⟩, rfl⟩, ?_, ?_, ?_⟩
  · omega
  · omega
  · omega
theorem new_bad (n : Int) (h : n < 1 ∨ 8 < n) (w : World) : Calls Try.prog 14 #[.int .i64 n] w fun e w' => e = .returned (.tuple #[.pointer none, .int .i64 2]) ∧ Kept [] w w' := by
  by_cases h1 : n < 1
  · have e1 : decide (n < 1) = true := by simpa using h1
    go_enter Try.func14, Try.ntmps14
    go_wp2
    go_ret2
    exact ⟨rfl, Kept.refl _ _⟩
  · have e1 : decide (n < 1) = false := by simpa using h1
    have e2 : decide (n > 8) = true := by rcases h with h | h; omega; simpa using h
    go_enter Try.func14, Try.ntmps14
    go_wp2
    go_ret2
    exact ⟨rfl, Kept.refl _ _⟩
/-- What Run leaves. -/
def V.run (x : V) (on : Bool) : V := if x.running = on then x else { x with running := on, value := none, hold := false }
theorem run_call (v g o : Nat) (x : V) (on : Bool) (w : World) (h : IsV w v g o x) : Calls Try.prog 15 #[.pointer (some ⟨v, 0, none⟩), .bool on] w fun e w' => e = .returned (.tuple #[]) ∧ Kept [v] w w' ∧ IsV w' v g o (x.run on) := by
  obtain ⟨s, t, h1, h2, h3⟩ := h
  have c2 := h1.cell 2 (v := .bool x.running) rfl
  have c4 := h1.cell 4 (v := .bool x.hold) rfl
  have c5 := h1.cell 5 (v := s) rfl
  have z2 := h1.free 2
  have z4 := h1.free 4
  have z5 := h1.free 5
  by_cases e : x.running = on
  · have e1 : (!x.running == on) = false := by simp [e]
    have e9 : x.run on = x := by simp [V.run, e]
    rw [e9]
    have h1' := Lib.hid h1
    have h3' := Lib.hid h3
    clear h1 h3 e e9
    go_enter Try.func15, Try.ntmps15
    go_wp2
    go_end0
    exact ⟨rfl, Kept.refl _ _, ⟨s, t, h1'.out, h2, h3'.out⟩⟩
  · have e1 : (!x.running == on) = true := by simp [e]
    have e9 : x.run on = { x with running := on, value := none, hold := false } := by simp [V.run, e]
    rw [e9]
    have h1' := Lib.hid h1
    have h3' := Lib.hid h3
    have n1 : v ≠ g := Has.ne h1 h2.1 (by decide)
    have n2 : v ≠ o := Has.ne h1 h2.2 (by decide)
    clear h1 h3 e e9
    go_enter Try.func15, Try.ntmps15
    go_wp2
    go_end0
    have hk := (((Kept.refl [v] w).set ⟨v, 2, none⟩ (.bool on) (by simp)).set ⟨v, 5, none⟩ (.slice none 0 0) (by simp)).set ⟨v, 4, none⟩ (.bool false) (by simp)
    refine ⟨rfl, hk, ⟨_, t, ((h1'.out.set 2 (.bool on)).set 5 (.slice none 0 0)).set 4 (.bool false), h2.kept hk (by simp [n1.symm]) (by simp [n2.symm]), rfl⟩⟩
theorem run_nil (on : Bool) (w : World) : Calls Try.prog 15 #[.pointer none, .bool on] w fun e w' => e = .returned (.tuple #[]) ∧ Kept [] w w' := by
  go_enter Try.func15, Try.ntmps15
  go_wp2
  go_end0
  exact ⟨rfl, Kept.refl _ _⟩
/-- What Hold leaves. -/
def V.holds (x : V) (on : Bool) : V := { x with hold := on && x.running }
theorem hold_call (v g o : Nat) (x : V) (on : Bool) (w : World) (h : IsV w v g o x) : Calls Try.prog 25 #[.pointer (some ⟨v, 0, none⟩), .bool on] w fun e w' => e = .returned (.tuple #[]) ∧ Kept [v] w w' ∧ IsV w' v g o (x.holds on) := by
  obtain ⟨s, t, h1, h2, h3⟩ := h
  have c2 := h1.cell 2 (v := .bool x.running) rfl
  have c4 := h1.cell 4 (v := .bool x.hold) rfl
  have z4 := h1.free 4
  have n1 : v ≠ g := Has.ne h1 h2.1 (by decide)
  have n2 : v ≠ o := Has.ne h1 h2.2 (by decide)
  have hk := (Kept.refl [v] w).set ⟨v, 4, none⟩ (.bool (on && x.running)) (by simp)
  have h9 : IsV _ v g o (x.holds on) := ⟨s, t, h1.set 4 (.bool (on && x.running)), h2.kept hk (by simp [n1.symm]) (by simp [n2.symm]), h3.kept hk (by intro b hb hl; simp at hb; subst hb; exact ⟨_, _, h1, by decide⟩)⟩
  have k9 := Lib.hid hk
  have r9 := Lib.hid h9
  clear hk h9 h1 h3 n1 n2 h2
  cases on
  · go_enter Try.func25, Try.ntmps25
    go_wp2
    go_end0
    exact ⟨rfl, k9.out, r9.out⟩
  · go_enter Try.func25, Try.ntmps25
    go_wp2
    go_end0
    exact ⟨rfl, k9.out, r9.out⟩
theorem hold_nil (on : Bool) (w : World) : Calls Try.prog 25 #[.pointer none, .bool on] w fun e w' => e = .returned (.tuple #[]) ∧ Kept [] w w' := by
  go_enter Try.func25, Try.ntmps25
  go_wp2
  go_end0
  exact ⟨rfl, Kept.refl _ _⟩
/-- What Fresh leaves. -/
def V.come (x : V) : V := { x with fresh := x.latched != 0 }
theorem fresh_call (v g o : Nat) (x : V) (w : World) (h : IsV w v g o x) : Calls Try.prog 29 #[.pointer (some ⟨v, 0, none⟩)] w fun e w' => e = .returned (.tuple #[]) ∧ Kept [v] w w' ∧ IsV w' v g o x.come := by
  obtain ⟨s, t, h1, h2, h3⟩ := h
  have c1 := h1.cell 1 (v := .pointer (some ⟨g, 0, none⟩)) rfl
  have c3 := h1.cell 3 (v := .bool x.fresh) rfl
  have z3 := h1.free 3
  have n1 : v ≠ g := Has.ne h1 h2.1 (by decide)
  have n2 : v ≠ o := Has.ne h1 h2.2 (by decide)
  have hk := (Kept.refl [v] w).set ⟨v, 3, none⟩ (.bool (x.latched != 0)) (by simp)
  have h9 : IsV _ v g o x.come := ⟨s, t, h1.set 3 (.bool (x.latched != 0)), h2.kept hk (by simp [n1.symm]) (by simp [n2.symm]), h3.kept hk (by intro b hb hl; simp at hb; subst hb; exact ⟨_, _, h1, by decide⟩)⟩
  have k9 := Lib.hid hk
  have r9 := Lib.hid h9
  clear hk h9 h1 h3 n1 n2
  go_enter Try.func29, Try.ntmps29
  go_wp2_with fail
  refine (GateC.code_call g o _ _ h2).mono ?_
  rintro e w2 ⟨rfl, rfl⟩
  go_wp2
  go_end0
  exact ⟨rfl, k9.out, r9.out⟩
theorem fresh_nil (w : World) : Calls Try.prog 29 #[.pointer none] w fun e w' => e = .returned (.tuple #[]) ∧ Kept [] w w' := by
  go_enter Try.func29, Try.ntmps29
  go_wp2
  go_end0
  exact ⟨rfl, Kept.refl _ _⟩
theorem latched_call (v g o : Nat) (x : V) (w : World) (h : IsV w v g o x) : Calls Try.prog 24 #[.pointer (some ⟨v, 0, none⟩)] w fun e w' => e = .returned (.int .i64 x.latched) ∧ w = w' := by
  obtain ⟨s, t, h1, h2, h3⟩ := h
  have c1 := h1.cell 1 (v := .pointer (some ⟨g, 0, none⟩)) rfl
  clear h3 h1
  go_enter Try.func24, Try.ntmps24
  go_wp2_with fail
  refine (GateC.code_call g o _ _ h2).mono ?_
  rintro e w2 ⟨rfl, rfl⟩
  go_wp2
  go_ret
  exact ⟨rfl, rfl⟩
theorem latched_nil (w : World) : Calls Try.prog 24 #[.pointer none] w fun e w' => e = .returned (.int .i64 0) ∧ w = w' := by
  go_enter Try.func24, Try.ntmps24
  go_wp2
  go_ret
  exact ⟨rfl, rfl⟩
/-- Is an acknowledgement asked for? -/
def V.request (x : V) : Bool := x.running && (x.fresh && (x.latched != 0))
theorem request_call (v g o : Nat) (x : V) (w : World) (h : IsV w v g o x) : Calls Try.prog 27 #[.pointer (some ⟨v, 0, none⟩)] w fun e w' => e = .returned (.bool x.request) ∧ w = w' := by
  obtain ⟨s, t, h1, h2, h3⟩ := h
  have c1 := h1.cell 1 (v := .pointer (some ⟨g, 0, none⟩)) rfl
  have c2 := h1.cell 2 (v := .bool x.running) rfl
  have c3 := h1.cell 3 (v := .bool x.fresh) rfl
  clear h3 h1
  obtain ⟨n, r, f, hd, lt, vl⟩ := x
  cases r
  · go_enter Try.func27, Try.ntmps27
    go_wp2
    go_ret
    exact ⟨rfl, rfl⟩
  cases f
  · go_enter Try.func27, Try.ntmps27
    go_wp2
    go_ret
    exact ⟨rfl, rfl⟩
  · go_enter Try.func27, Try.ntmps27
    go_wp2_with fail
    refine (GateC.code_call g o _ _ h2).mono ?_
    rintro e w2 ⟨rfl, rfl⟩
    go_wp2
    go_ret
    exact ⟨rfl, rfl⟩
theorem request_nil (w : World) : Calls Try.prog 27 #[.pointer none] w fun e w' => e = .returned (.bool false) ∧ w = w' := by
  go_enter Try.func27, Try.ntmps27
  go_wp2
  go_ret
  exact ⟨rfl, rfl⟩
/-- What Trip leaves. -/
def V.trip (x : V) (c : Int) : V := if c = 0 then x else { x with value := none, fresh := false, latched := if x.latched = 0 then c else x.latched }
theorem trip_call (v g o : Nat) (x : V) (c : Int) (w : World) (h : IsV w v g o x) : Calls Try.prog 26 #[.pointer (some ⟨v, 0, none⟩), .int .i64 c] w fun e w' => e = .returned (.bool (decide (c ≠ 0) && decide (x.latched = 0))) ∧ Kept [v, g, o] w w' ∧ IsV w' v g o (x.trip c) := by
  by_cases hc : c = 0
  · have e0 : (c == 0) = true := by simp [hc]
    have e9 : x.trip c = x := by simp [V.trip, hc]
    have er : (decide (c ≠ 0) && decide (x.latched = 0)) = false := by simp [hc]
    rw [e9, er]
    have h' := Lib.hid h
    clear h hc e9 er
    go_enter Try.func26, Try.ntmps26
    go_wp2
    go_ret
    exact ⟨rfl, Kept.refl _ _, h'.out⟩
  · have e0 : (c == 0) = false := by simp [hc]
    have er : (decide (c ≠ 0) && decide (x.latched = 0)) = decide (x.latched = 0) := by simp [hc]
    rw [er]
    obtain ⟨s, t, h1, h2, h3⟩ := h
    have c1 := h1.cell 1 (v := .pointer (some ⟨g, 0, none⟩)) rfl
    have c3 := h1.cell 3 (v := .bool x.fresh) rfl
    have c5 := h1.cell 5 (v := s) rfl
    have z3 := h1.free 3
    have z5 := h1.free 5
    have n1 : v ≠ g := Has.ne h1 h2.1 (by decide)
    have n2 : v ≠ o := Has.ne h1 h2.2 (by decide)
    have hk0 := ((Kept.refl [v] w).set ⟨v, 5, none⟩ (.slice none 0 0) (by simp)).set ⟨v, 3, none⟩ (.bool false) (by simp)
    have hg := h2.kept hk0 (by simp [n1.symm]) (by simp [n2.symm])
    have hv := (h1.set 5 (.slice none 0 0)).set 3 (.bool false)
    have hv' := Lib.hid hv
    have hg' := Lib.hid hg
    have hk' := Lib.hid hk0
    have N := Lib.hid hc
    clear hk0 hg hv h1 h2 h3 hc er
    go_enter Try.func26, Try.ntmps26
    go_wp2_with fail
    refine (GateC.trip_call g o _ c _ hg'.out N.out).mono ?_
    rintro e w2 ⟨rfl, k2, h2⟩
    go_wp2
    go_ret
    refine ⟨rfl, (hk'.out.mono (by simp)).trans (k2.mono (by simp)), ?_⟩
    have hc := N.out
    by_cases h0 : x.latched = 0
    · have ex : x.trip c = ⟨x.n, x.running, false, x.hold, c, none⟩ := by simp [V.trip, hc, h0]
      have : G.trip ⟨x.latched, decide (x.latched ≠ 0), t⟩ c = ⟨c, decide (c ≠ 0), wrap64 (t + 1)⟩ := by simp [G.trip, h0, hc]
      rw [this] at h2
      rw [ex]
      exact ⟨_, wrap64 (t + 1), k2.has hv'.out (by simp [n1, n2]), h2, rfl⟩
    · have ex : x.trip c = ⟨x.n, x.running, false, x.hold, x.latched, none⟩ := by simp [V.trip, hc, h0]
      have : G.trip ⟨x.latched, decide (x.latched ≠ 0), t⟩ c = ⟨x.latched, decide (x.latched ≠ 0), wrap64 (t + 1)⟩ := by simp [G.trip, h0]
      rw [this] at h2
      rw [ex]
      exact ⟨_, wrap64 (t + 1), k2.has hv'.out (by simp [n1, n2]), h2, rfl⟩
theorem trip_nil (c : Int) (w : World) : Calls Try.prog 26 #[.pointer none, .int .i64 c] w fun e w' => e = .returned (.bool false) ∧ Kept [] w w' := by
  go_enter Try.func26, Try.ntmps26
  go_wp2
  go_ret
  exact ⟨rfl, Kept.refl _ _⟩
/-- What Ack leaves. -/
def V.ack (x : V) : V := if x.request then { x with latched := 0, fresh := false } else x
/-- The valve behind an acknowledgement; its gate's once may be another. -/
def Acked (w w' : World) (v g o : Nat) (x : V) : Prop := ∃ o', (o' = o ∨ w.heap.size ≤ o') ∧ IsV w' v g o' x
set_option maxHeartbeats 1600000 in
theorem ack_call (v g o : Nat) (x : V) (w : World) (h : IsV w v g o x) : Calls Try.prog 28 #[.pointer (some ⟨v, 0, none⟩)] w fun e w' => e = .returned (.int .i64 (if x.request then 0 else 110)) ∧ Kept [v, g, o] w w' ∧ Acked w w' v g o x.ack := by
  have hv := Lib.hid h
  by_cases hr : x.request = true
  · have ea : x.ack = { x with latched := 0, fresh := false } := by simp [V.ack, hr]
    rw [ea, hr]
    obtain ⟨s, t, h1, h2, h3⟩ := h
    have c1 := h1.cell 1 (v := .pointer (some ⟨g, 0, none⟩)) rfl
    have n1 : v ≠ g := Has.ne h1 h2.1 (by decide)
    have n2 : v ≠ o := Has.ne h1 h2.2 (by decide)
    have H1 := Lib.hid h1
    have H3 := Lib.hid h3
    have er : (!x.request) = false := by simp [hr]
    have R := Lib.hid hr
    clear hr ea h1 h3
    go_enter Try.func28, Try.ntmps28
    go_wp2_with fail
    refine (request_call v g o x _ hv.out).mono ?_
    rintro e w2 ⟨rfl, rfl⟩
    go_wp2_with fail
    refine (GateC.lift_call g o _ _ h2).mono ?_
    rintro e w2 ⟨rfl, k2, h2'⟩
    have hh := k2.has H1.out (by simp [n1])
    have c3 := hh.cell 3 (v := .bool x.fresh) rfl
    have z3 := hh.free 3
    have HH := Lib.hid hh
    have hl := H1.out.lt
    have h2l := h2.2.lt
    clear hh
    go_wp2
    go_ret
    have hk3 := (Kept.refl [v] w2).set ⟨v, 3, none⟩ (.bool false) (by simp)
    have n3 : v ≠ w.heap.size := by omega
    refine ⟨rfl, ((k2.mono (by simp)).trans (hk3.mono (by simp))), w.heap.size, .inr (Nat.le_refl _), ⟨s, 0, HH.out.set 3 (.bool false), h2'.kept hk3 (by simp [n1.symm]) (by simp [n3.symm]), ?_⟩⟩
    refine Val.kept (Val.kept H3.out k2 ?_) hk3 ?_
    · intro b hb hl; simp at hb; subst hb; exact ⟨_, _, h2.1, by decide⟩
    · intro b hb hl; simp at hb; subst hb; exact ⟨_, _, HH.out, by decide⟩
  · have hr : x.request = false := by simpa using hr
    have ea : x.ack = x := by simp [V.ack, hr]
    rw [ea, hr]
    have er : (!x.request) = true := by simp [hr]
    clear hr ea h
    go_enter Try.func28, Try.ntmps28
    go_wp2_with fail
    refine (request_call v g o x _ hv.out).mono ?_
    rintro e w2 ⟨rfl, rfl⟩
    go_wp2
    go_ret
    exact ⟨rfl, Kept.refl _ _, o, .inl rfl, hv.out⟩
theorem ack_nil (w : World) : Calls Try.prog 28 #[.pointer none] w fun e w' => e = .returned (.int .i64 1) ∧ Kept [] w w' := by
  go_enter Try.func28, Try.ntmps28
  go_wp2
  go_ret
  exact ⟨rfl, Kept.refl _ _⟩
/-- What Take leaves. -/
def V.take (x : V) (l : List Int) : V := if x.running && (x.latched == 0) then { x with value := some l } else x
theorem bytes_len {w : World} {s : Value} {l : List Int} (h : Bytes w s l) : ∃ p c, s = .slice p l.length c := by
  rcases h with ⟨rfl, rfl⟩ | ⟨x, cap, rfl, _⟩
  · exact ⟨_, _, rfl⟩
  · exact ⟨_, _, rfl⟩
set_option maxHeartbeats 1600000 in
theorem take_call (v g o : Nat) (x : V) (a : Value) (l : List Int) (w : World) (h : IsV w v g o x) (ha : Bytes w a l) (hn : x.n = (l.length : Int)) (h1 : l ≠ []) (h8 : l.length ≤ 8) :
    Calls Try.prog 17 #[.pointer (some ⟨v, 0, none⟩), a] w fun e w' => e = .returned (.int .i64 0) ∧ Kept [v] w w' ∧ IsV w' v g o (x.take l) := by
  have hv := Lib.hid h
  obtain ⟨s, t, h1', h2, h3⟩ := h
  have c0 := h1'.cell 0 (v := .int .i64 x.n) rfl
  have c1 := h1'.cell 1 (v := .pointer (some ⟨g, 0, none⟩)) rfl
  have c2 := h1'.cell 2 (v := .bool x.running) rfl
  have n1 : v ≠ g := Has.ne h1' h2.1 (by decide)
  have n2 : v ≠ o := Has.ne h1' h2.2 (by decide)
  have H1 := Lib.hid h1'
  obtain ⟨p, c, rfl⟩ := bytes_len ha
  have HA := Lib.hid ha
  have HN := Lib.hid h1
  have en : ((l.length : Int) != x.n) = false := by simp [hn]
  clear ha h1 h3 h1' hn
  by_cases hr : x.running && (x.latched == 0)
  · have ex : x.take l = { x with value := some l } := by simp only [V.take, hr]; rfl
    rw [ex]
    obtain ⟨hr1, hr2⟩ := by simpa only [Bool.and_eq_true] using hr
    rw [hr1] at c2
    have R := Lib.hid hr1
    clear hr ex hr1
    go_enter Try.func17, Try.ntmps17
    go_wp2_with fail
    refine (GateC.code_call g o _ _ h2).mono ?_
    rintro e w2 ⟨rfl, rfl⟩
    go_wp2_with fail
    refine (clone_call _ l _ HA.out (by omega)).mono ?_
    rintro e w2 ⟨cv, rfl, k2, hcl⟩
    have hown : ∃ kk, w.heap.size ≤ kk ∧ Own w2 kk cv l := by
      rcases hcl with ⟨e1, e2⟩ | ⟨_, kk, hk, ho⟩
      · rcases HA.out with ⟨_, e⟩ | ⟨x, cap, e, _⟩
        · exact absurd e HN.out
        · rw [e] at e1; cases e1
      · exact ⟨kk, hk, ho⟩
    obtain ⟨kk, hkk, ho⟩ := hown
    obtain ⟨cap, cur, ecv, _⟩ := id ho
    subst ecv
    have HO := Lib.hid ho
    have hh := k2.has H1.out (by simp)
    have c5 := hh.cell 5 (v := s) rfl
    have z5 := hh.free 5
    have HH := Lib.hid hh
    have hl := H1.out.lt
    have h2l := h2.1.lt
    have h2m := h2.2.lt
    clear hh hcl ho
    go_wp2
    go_ret
    have hk3 := (Kept.refl [v] w2).set ⟨v, 5, none⟩ (.slice (some ⟨kk, 0, none⟩) l.length cap) (by simp)
    have n3 : kk ≠ v := by omega
    have e9 : x.running = true := R.out
    have HV := HH.out.set 5 (.slice (some ⟨kk, 0, none⟩) l.length cap)
    refine ⟨rfl, (k2.mono (by simp)).trans hk3, ⟨_, t, by simpa [e9] using HV, (h2.kept k2 (by simp) (by simp)).kept hk3 (by simp [n1.symm]) (by simp [n2.symm]), h8, kk, HO.out.kept hk3 (by simp [n3])⟩⟩
  · have ex : x.take l = x := by simp only [V.take, hr]; rfl
    rw [ex]
    have hr' : (x.running && (x.latched == 0)) = false := by simpa using hr
    clear hr ex
    rcases hx : x.running with _ | _
    · rw [hx] at c2
      clear hx hr'
      go_enter Try.func17, Try.ntmps17
      go_wp2_with fail
      go_ret
      exact ⟨rfl, Kept.refl _ _, hv.out⟩
    · rw [hx] at c2 hr'
      rw [Bool.true_and] at hr'
      clear hx
      go_enter Try.func17, Try.ntmps17
      go_wp2_with fail
      refine (GateC.code_call g o _ _ h2).mono ?_
      rintro e w2 ⟨rfl, rfl⟩
      go_wp2
      go_ret
      exact ⟨rfl, Kept.refl _ _, hv.out⟩
theorem take_len (v g o : Nat) (x : V) (a : Value) (l : List Int) (w : World) (h : IsV w v g o x) (ha : Bytes w a l) (hn : x.n ≠ (l.length : Int)) :
    Calls Try.prog 17 #[.pointer (some ⟨v, 0, none⟩), a] w fun e w' => e = .returned (.int .i64 45) ∧ Kept [] w w' := by
  obtain ⟨s, t, h1', h2, h3⟩ := h
  have c0 := h1'.cell 0 (v := .int .i64 x.n) rfl
  obtain ⟨p, c, rfl⟩ := bytes_len ha
  have en : ((l.length : Int) != x.n) = true := by simp; exact fun e => hn e.symm
  clear ha h3 h1' hn
  go_enter Try.func17, Try.ntmps17
  go_wp2
  go_ret
  exact ⟨rfl, Kept.refl _ _⟩
theorem take_nil (a : Value) (w : World) : Calls Try.prog 17 #[.pointer none, a] w fun e w' => e = .returned (.int .i64 1) ∧ Kept [] w w' := by
  go_enter Try.func17, Try.ntmps17
  go_wp2
  go_ret
  exact ⟨rfl, Kept.refl _ _⟩
/-- Is it a process value? -/
def V.on (x : V) : Bool := x.running && (!x.hold && x.value.isSome)
def V.out (x : V) : List Int := if x.on then x.value.getD [] else List.replicate x.n.toNat 0
theorem made_u8 (n : Nat) : (madeCells (Value.int .u8 0).cells n).toList = U8 (List.replicate n 0) := by
  apply List.ext_getElem?
  intro i
  rcases Nat.lt_or_ge i n with h | h
  · simp [madeCells, Value.cells, U8, h, Nat.mod_one, List.getElem?_map, List.getElem?_range h]
  · simp [madeCells, Value.cells, U8, h]
theorem info_make (n : Int) (h1 : 1 ≤ n) (h8 : n ≤ 8) (W : World) : (Instr.makeSlice 22 (.int .i64 n) (.int .i64 n)).run Try.prog W = .ok (.slice (some ⟨W.heap.size, 0, none⟩) n.toNat n.toNat) (W.alloc (.cells (U8 (List.replicate n.toNat 0)).toArray 5)) := by
  obtain ⟨i0, hi, hz0, hz1, hz2⟩ := info_parts info5
  have := run_make (P := Try.prog) W 22 5 i0 (.int .u8 0) Try.underlying22 hi hz0 .i64 .i64 n n (by omega) (by omega) (by rw [hz2]; omega) (by omega)
  rw [this, hz1, Nat.mul_one, ← made_u8]
/-- What Output gives. -/
def Outs (w w' : World) (s : Value) (l : List Int) : Prop := ∃ k, w.heap.size ≤ k ∧ Own w' k s l
set_option maxHeartbeats 1600000 in
theorem output_call (v g o : Nat) (x : V) (w : World) (h : IsV w v g o x) (hn : 1 ≤ x.n) (h8 : x.n ≤ 8) :
    Calls Try.prog 19 #[.pointer (some ⟨v, 0, none⟩)] w fun e w' => ∃ s, e = .returned (.tuple #[s, .bool x.on]) ∧ Kept [] w w' ∧ Outs w w' s x.out := by
  obtain ⟨s, t, h1', h2, h3⟩ := h
  have c0 := h1'.cell 0 (v := .int .i64 x.n) rfl
  have c2 := h1'.cell 2 (v := .bool x.running) rfl
  have c4 := h1'.cell 4 (v := .bool x.hold) rfl
  have c5 := h1'.cell 5 (v := s) rfl
  have hm := info_make x.n hn h8
  have ez : U8 (List.replicate x.n.toNat 0) = U8 (List.replicate x.n.toNat 0) := rfl
  have hz : Outs w (w.alloc (.cells (U8 (List.replicate x.n.toNat 0)).toArray 5)) (.slice (some ⟨w.heap.size, 0, none⟩) x.n.toNat x.n.toNat) (List.replicate x.n.toNat 0) := by
    refine ⟨w.heap.size, Nat.le_refl _, x.n.toNat, U8 (List.replicate x.n.toNat 0), by simp, Has.new w _ _, by simp, by unfold maxLen; omega, by simp [U8], ?_⟩
    rw [List.take_of_length_le (by simp [U8])]
  have hk := (Kept.refl [] w).alloc (.cells (U8 (List.replicate x.n.toNat 0)).toArray 5)
  have HZ := Lib.hid hz
  have HK := Lib.hid hk
  have H1 := Lib.hid hn
  clear hz hk h1' h2 hn h8 ez
  by_cases hr : x.running
  case neg =>
    have eo : x.on = false := by simp [V.on, hr]
    have el : x.out = List.replicate x.n.toNat 0 := by simp [V.out, eo]
    rw [eo, el]
    simp at hr
    rw [hr] at c2
    clear hr eo el h3
    go_enter Try.func19, Try.ntmps19
    go_wp2
    go_ret2
    exact ⟨_, rfl, HK.out, HZ.out⟩
  rw [hr] at c2
  by_cases hh : x.hold
  · have eo : x.on = false := by simp [V.on, hh]
    have el : x.out = List.replicate x.n.toNat 0 := by simp [V.out, eo]
    rw [eo, el]
    rw [hh] at c4
    clear hr hh eo el h3
    go_enter Try.func19, Try.ntmps19
    go_wp2
    go_ret2
    exact ⟨_, rfl, HK.out, HZ.out⟩
  simp at hh
  rw [hh] at c4
  cases hv : x.value with
  | none =>
    have eo : x.on = false := by simp [V.on, hv]
    have el : x.out = List.replicate x.n.toNat 0 := by simp [V.out, eo]
    rw [eo, el]
    rw [hv] at h3
    obtain rfl : s = .slice none 0 0 := h3
    have hnil : ∀ W : World, (binOp .neq 22 (.slice none 0 0) (.slice none 0 0)).run Try.prog W = .ok (.bool false) W := fun W => Go.run_neq_slice_nil_any W 22 _ none 0 0 0 0 Try.underlying22
    clear hr hh hv eo el
    go_enter Try.func19, Try.ntmps19
    go_wp2
    go_ret2
    exact ⟨_, rfl, HK.out, HZ.out⟩
  | some l =>
    have eo : x.on = true := by simp [V.on, hv, hr, hh]
    have el : x.out = l := by simp [V.out, eo, hv]
    rw [eo, el]
    rw [hv] at h3
    obtain ⟨h8, kk, ho⟩ := h3
    obtain ⟨cap, cur, rfl, ho2⟩ := id ho
    have HO := Lib.hid ho
    have hnil : ∀ W : World, (binOp .neq 22 (.slice (some ⟨kk, 0, none⟩) l.length cap) (.slice none 0 0)).run Try.prog W = .ok (.bool true) W := fun W => Go.run_neq_slice_nil_any W 22 _ (some ⟨kk, 0, none⟩) l.length cap 0 0 Try.underlying22
    clear hr hh hv eo el ho ho2
    go_enter Try.func19, Try.ntmps19
    go_wp2_with fail
    refine (clone_call _ l _ HO.out.bytes (by omega)).mono ?_
    rintro e w2 ⟨cv, rfl, k2, hcl⟩
    have hown : ∃ kk, w.heap.size ≤ kk ∧ Own w2 kk cv l := by
      rcases hcl with ⟨e1, e2⟩ | ⟨_, kk, hk, ho⟩
      · cases e1
      · exact ⟨kk, hk, ho⟩
    obtain ⟨k3, hkk, ho⟩ := hown
    have HO2 := Lib.hid ho
    clear hcl ho
    go_wp2
    go_ret2
    exact ⟨cv, rfl, k2, k3, hkk, HO2.out⟩
theorem output_nil (w : World) : Calls Try.prog 19 #[.pointer none] w fun e w' => e = .returned (.tuple #[.slice none 0 0, .bool false]) ∧ Kept [] w w' := by
  go_enter Try.func19, Try.ntmps19
  go_wp2
  go_ret2
  exact ⟨rfl, Kept.refl _ _⟩
end Go.Proofs.Ytlafkeijikbenab.ValveC
