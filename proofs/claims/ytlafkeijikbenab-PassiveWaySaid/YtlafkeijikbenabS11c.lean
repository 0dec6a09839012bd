/- Layer 11: step, shows, call. (Written by wip/gen_11c.py.) -/
import Derived.Test.YtlafkeijikbenabS11b
import Derived.Deep.Cut
import Derived.Deep.RegionHeld3
namespace Go.Proofs.Ytlafkeijikbenab.S11
open Go Go.RowKit Go.Proofs.Ytlafkeijikbenab.Hp Go.Proofs.Ytlafkeijikbenab.GateC Go.Proofs.Ytlafkeijikbenab.Sl Go.Proofs.Ytlafkeijikbenab.ValveC Go.Proofs.Ytlafkeijikbenab.ValveR Go.Proofs.Ytlafkeijikbenab.Fit
set_option linter.unusedVariables false
set_option linter.unusedSimpArgs false
theorem same1 {P : Program} {f : FuncId} {args : Array Value} {w : World} {v : Value} (h : Calls P f args w fun e w' => e = .returned v ∧ w = w') : Calls P f args w fun e w' => e = .returned v ∧ w' = w :=
  h.mono (fun _ _ ⟨a, b⟩ => ⟨a, b.symm⟩)
/-- The program's valve and the document's, alike. -/
def Both (w : World) (v g o r : Nat) (x : V) : Prop := IsV w v g o x ∧ IsR w r x
theorem IsV.over {w w' : World} {v g o r : Nat} {x y : V} (h : IsV w v g o x) (hr : IsR w r y) (k : Kept [r] w w') : IsV w' v g o x :=
  h.kept2 k (by intro b hb hl; simp at hb; subst hb; obtain ⟨s, q, _⟩ := hr; exact ⟨_, _, q, by decide, by decide, by decide, by decide⟩)
theorem IsR.over {w w' : World} {v g o r : Nat} {x y : V} (h : IsR w r y) (hv : IsV w v g o x) (k : Kept [v, g, o] w w') : IsR w' r y :=
  h.kept k (by
    obtain ⟨s, t, q1, q2, _⟩ := hv
    intro b hb hl; simp at hb
    rcases hb with rfl | rfl | rfl
    · exact ⟨_, _, q1, by decide, by decide⟩
    · exact ⟨_, _, q2.1, by decide, by decide⟩
    · exact ⟨_, _, q2.2, by decide, by decide⟩)
theorem IsV.lt {w : World} {v g o : Nat} {x : V} (h : IsV w v g o x) : v < w.heap.size ∧ g < w.heap.size ∧ o < w.heap.size := by
  obtain ⟨s, t, q1, q2, _⟩ := h; exact ⟨q1.lt, q2.1.lt, q2.2.lt⟩
theorem IsR.lt {w : World} {r : Nat} {x : V} (h : IsR w r x) : r < w.heap.size := by obtain ⟨s, q, _⟩ := h; exact q.lt
theorem Both.kept {w w' : World} {v g o r : Nat} {x : V} (h : Both w v g o r x) (k : Kept [] w w') : Both w' v g o r x := ⟨h.1.kept k (by simp), h.2.fresh k⟩
/-- One call. -/
def _root_.Go.Proofs.Ytlafkeijikbenab.ValveC.V.step (x : V) (k c : Int) (on : Bool) (l : List Int) : V :=
  if k = 1 then x.trip c else if k = 2 then x.run on else if k = 3 then x.come else if k = 4 then x.holds on else if k = 5 then (if (l.length : Int) = x.n then x.take l else x) else if k = 6 then x.ack else x
/-- A latched fault alone keeps something fresh. -/
def _root_.Go.Proofs.Ytlafkeijikbenab.ValveC.V.ok (x : V) : Prop := (x.latched = 0 → x.fresh = false) ∧ 1 ≤ x.n ∧ x.n ≤ 8
theorem V_ok_step {x : V} (h : x.ok) (k c : Int) (on : Bool) (l : List Int) : (x.step k c on l).ok ∧ (x.step k c on l).n = x.n := by
  obtain ⟨n, r, f, hd, lt, vl⟩ := x
  obtain ⟨h1, h2, h3⟩ := h
  simp only [] at h1 h2 h3
  unfold V.step
  by_cases k1 : k = 1
  · simp only [k1, if_true]
    by_cases hc : c = 0
    · simp [V.trip, hc, V.ok]; exact ⟨h1, h2, h3⟩
    · simp [V.trip, hc, V.ok]; exact ⟨h2, h3⟩
  rw [if_neg k1]
  by_cases k2 : k = 2
  · rw [if_pos k2]
    by_cases hc : r = on
    · simp [V.run, hc, V.ok]; exact ⟨h1, h2, h3⟩
    · simp [V.run, hc, V.ok]; exact ⟨h1, h2, h3⟩
  rw [if_neg k2]
  by_cases k3 : k = 3
  · rw [if_pos k3]; simp [V.come, V.ok]; exact ⟨h2, h3⟩
  rw [if_neg k3]
  by_cases k4 : k = 4
  · rw [if_pos k4]; simp [V.holds, V.ok]; exact ⟨h1, h2, h3⟩
  rw [if_neg k4]
  by_cases k5 : k = 5
  · rw [if_pos k5]
    by_cases hl : (l.length : Int) = n
    · rw [if_pos hl]
      by_cases hr : r && (lt == 0)
      · simp only [V.take, hr, if_true]; exact ⟨⟨h1, h2, h3⟩, by trivial⟩
      · simp only [V.take, hr]; exact ⟨⟨h1, h2, h3⟩, by trivial⟩
    · rw [if_neg hl]; exact ⟨⟨h1, h2, h3⟩, by trivial⟩
  rw [if_neg k5]
  by_cases k6 : k = 6
  · rw [if_pos k6]
    by_cases hr : V.request ⟨n, r, f, hd, lt, vl⟩
    · simp only [V.ack, hr, if_true]; exact ⟨⟨fun _ => rfl, h2, h3⟩, by trivial⟩
    · simp only [V.ack, hr]; exact ⟨⟨h1, h2, h3⟩, by trivial⟩
  rw [if_neg k6]; exact ⟨⟨h1, h2, h3⟩, by trivial⟩
/-- Both behind a call. -/
def Stepped (w w' : World) (v g o r : Nat) (x : V) : Prop := ∃ o', (o' = o ∨ w.heap.size ≤ o') ∧ Both w' v g o' r x
/-- A slice of bytes that lies below B, or is empty. -/
def Below2 (s : Value) (l : List Int) (B : Nat) : Prop := ∀ b off n c, s = .slice (some ⟨b, off, none⟩) n c → l ≠ [] → b < B
theorem Bytes.low {w w' : World} {s : Value} {l : List Int} {S : List Nat} {B : Nat} (h : Bytes w s l) (k : Kept S w w') (hB : Below2 s l B) (hS : ∀ b, b ∈ S → B ≤ b) : Bytes w' s l :=
  h.kept k (fun b off n c e hl hb => by have := hB b off n c e hl; have := hS b hb; omega)

set_option maxRecDepth 100000 in
set_option maxHeartbeats 1600000 in
theorem shows_call (v g o r : Nat) (x : V) (w : World) (h : Both w v g o r x) (hx : x.ok) :
    Calls Try.prog 21 #[.pointer (some ⟨v, 0, none⟩), .pointer (some ⟨r, 0, none⟩)] w fun e w' => e = .returned (.bool true) ∧ Kept [] w w' := by
  go_enter Try.func21, Try.ntmps21
  go_wp2_with fail
  refine (output_call v g o x _ h.1 hx.2.1 hx.2.2).mono ?_
  rintro e w1 ⟨s1, rfl, k1, b1, hb1, o1⟩
  have h1 := h.kept k1
  go_wp2_with fail
  refine (routput_call r x _ h1.2 hx.2.1 hx.2.2).mono ?_
  rintro e w2 ⟨s2, rfl, k2, b2, hb2, o2⟩
  have h2 := h1.kept k2
  have K := k1.trans k2
  have q1 : ∀ n, (convert 22 9 s1).run Try.prog (w2.drewN n) = .ok (.string (strOfNums x.out)) (w2.drewN n) := fun n => ((o1.kept k2 (by simp)).kept ((Kept.refl [] _).drewN n) (by simp)).bytes.str
  have q2 : ∀ n, (convert 22 9 s2).run Try.prog (w2.drewN n) = .ok (.string (strOfNums x.out)) (w2.drewN n) := fun n => (o2.kept ((Kept.refl [] _).drewN n) (by simp)).bytes.str
  have T1 : ∀ n, Calls Try.prog 24 #[.pointer (some ⟨v, 0, none⟩)] (w2.drewN n) fun e w' => e = .returned (.int .i64 x.latched) ∧ w' = w2.drewN n := fun n => same1 (latched_call v g o x _ (h2.1.kept ((Kept.refl [] _).drewN n) (by simp)))
  have T2 : ∀ n, Calls Try.prog 27 #[.pointer (some ⟨v, 0, none⟩)] (w2.drewN n) fun e w' => e = .returned (.bool x.request) ∧ w' = w2.drewN n := fun n => same1 (request_call v g o x _ (h2.1.kept ((Kept.refl [] _).drewN n) (by simp)))
  have T3 : ∀ n, Calls Try.prog 48 #[.pointer (some ⟨r, 0, none⟩)] (w2.drewN n) fun e w' => e = .returned (.bool x.request) ∧ w' = w2.drewN n := fun n => same1 (rrequest_call r x _ (h2.2.fresh ((Kept.refl [] _).drewN n)))
  have y4 : w2.cell? ⟨r, 4, none⟩ = some (.int .i64 x.latched) := by obtain ⟨s, q, _⟩ := h2.2; exact q.cell 4 rfl
  replace T1 := Lib.hid T1
  replace T2 := Lib.hid T2
  replace T3 := Lib.hid T3
  have eb1 : (x.on == x.on) = true := by simp
  have eb2 : (x.request == x.request) = true := by simp
  have eb3 : (x.latched == x.latched) = true := by simp
  clear h h1 h2 hx o1 o2 k1 k2 hb1 hb2
  go_wp2_with fail
  go_quiet (first | (go_at_call 24; exact Calls.quiet_of_same (T1.out _)) | (go_at_call 27; exact Calls.quiet_of_same (T2.out _)) | (go_at_call 48; exact Calls.quiet_of_same (T3.out _)))
  go_wp2_with fail
  go_ret
  exact ⟨rfl, K.drewN _⟩
theorem bool_beq (b : Bool) : (b == b) = true := by simp
/-- What the calls of step need. -/
structure Ready (w : World) (v g o r : Nat) (x : V) (s : Value) (l : List Int) (B : Nat) : Prop where
  both : Both w v g o r x
  ok : x.ok
  bytes : Bytes w s l
  low : Below2 s l B
  own : B ≤ v ∧ B ≤ g ∧ B ≤ o ∧ B ≤ r
  len : l.length ≤ 140737488351232
set_option maxRecDepth 100000 in
set_option maxHeartbeats 1600000 in
theorem step_call (v g o r : Nat) (x : V) (k c : Int) (on : Bool) (s : Value) (l : List Int) (B : Nat) (w : World) (h : Ready w v g o r x s l B) :
    Calls Try.prog 22 #[.pointer (some ⟨v, 0, none⟩), .pointer (some ⟨r, 0, none⟩), .agg #[.int .i64 k, .int .i64 c, .bool on, s]] w fun e w' => e = .returned (.bool true) ∧ Kept [v, g, o, r] w w' ∧ Stepped w w' v g o r (x.step k c on l) := by
  obtain ⟨hb, hx, hs, hlow, hown, hlen⟩ := h
  have hne : v ≠ g ∧ v ≠ o ∧ g ≠ o := by obtain ⟨s, t, q1, q2, _⟩ := hb.1; exact ⟨Has.ne q1 q2.1 (by decide), Has.ne q1 q2.2 (by decide), Has.ne q2.1 q2.2 (by decide)⟩
  have hrn : r ≠ v ∧ r ≠ g ∧ r ≠ o := by obtain ⟨s, t, q1, q2, _⟩ := hb.1; obtain ⟨_, q, _⟩ := hb.2; exact ⟨Has.ne q q1 (by decide), Has.ne q q2.1 (by decide), Has.ne q q2.2 (by decide)⟩
  have hlv := IsV.lt hb.1
  have hlr := IsR.lt hb.2
  obtain ⟨sp, sc, rfl⟩ := bytes_len hs
  have hO := Has.new w 45 [.int .i64 k, .int .i64 c, .bool on, .slice sp l.length sc]
  have k0 := (Kept.refl [] w).alloc (.cells #[.int .i64 k, .int .i64 c, .bool on, .slice sp l.length sc] 45)
  have hb0 := hb.kept k0
  have hs0 := Bytes.low hs k0 hlow (by simp)
  generalize hy : x.step k c on l = y
  have HY := Lib.hid hy
  clear hb hs hy
  go_enter Try.func22, Try.ntmps22
  go_upto_region 1 with (fail)
  have hO : Has (w.alloc (.cells #[.int .i64 k, .int .i64 c, .bool on, .slice sp l.length sc] 45)) w.heap.size 45 [.int .i64 k, .int .i64 c, .bool on, .slice sp l.length sc] := hO
  generalize w.alloc (.cells #[.int .i64 k, .int .i64 c, .bool on, .slice sp l.length sc] 45) = w0 at *
  generalize hbs : w.heap.size = b at *
  have y0 := hO.cell 0 (v := .int .i64 k) rfl
  have y1 := hO.cell 1 (v := .int .i64 c) rfl
  have y2 := hO.cell 2 (v := .bool on) rfl
  have y3 := hO.cell 3 (v := .slice sp l.length sc) rfl
  have hbn : b ≠ v ∧ b ≠ g ∧ b ≠ o ∧ b ≠ r := by omega
  by_cases k1 : k = 1
  · subst k1
    have T1 := Lib.hid (fun n => ValveC.trip_call v g o x c _ (hb0.1.kept ((Kept.refl [] w0).drewN n) (by simp)))
    have T2 := Lib.hid (fun w9 (k9 : Kept [v, g, o] w0 w9) => rtrip_call r x c w9 (IsR.over hb0.2 hb0.1 k9))
    obtain rfl : y = x.trip c := by rw [← HY.out]; simp [V.step]
    have D := Lib.hid (bool_beq (decide (c ≠ 0) && decide (x.latched = 0)))
    have BO := Lib.hid hb0
    have HO := Lib.hid hO
    have hlO := hO.lt
    clear hx hs0 hlow hlen hb0 hO hown y2 y3
    go_wp2_with fail
    go_region_held3 (fun w' => w'.cell? ⟨b, 1, none⟩ = some (.int .i64 c)) (first | assumption | go_keep)
      (first
        | (go_at_call 26; refine (T1.out 1).mono ?_; rintro e w5 ⟨rfl, k5, h5⟩; have q5 : w5.cell? ⟨b, 1, none⟩ = some (.int .i64 c) := (k5.cell (by simpa using hlO) (by simp <;> omega)).trans y1)
        | (go_at_call 49; refine (T2.out _ (((Kept.refl [v, g, o] w0).drewN 1).trans k5)).mono ?_; rintro e w6 ⟨rfl, k6, h6⟩; have q6 : w6.cell? ⟨b, 1, none⟩ = some (.int .i64 c) := (k6.cell (by have := k5.size; simp at this; simp; omega) (by simp <;> omega)).trans q5))
    have dd := D.out
    go_wp2_with fail
    go_ret
    have K5 : Kept [v, g, o] w0 w5 := ((Kept.refl [v, g, o] w0).drewN 1).trans k5
    refine ⟨rfl, (k0.mono (by simp)).trans ((K5.mono (by simp)).trans (k6.mono (by simp))), o, .inl rfl, ?_, h6⟩
    exact IsV.over h5 (IsR.over BO.out.2 BO.out.1 K5) k6
  by_cases k2 : k = 2
  · subst k2
    obtain rfl : y = x.run on := by rw [← HY.out]; simp [V.step]
    clear k1 hx hs0 hlow hlen y1 y3 hown
    go_wp2_with fail
    refine (ValveC.run_call v g o x on _ hb0.1).mono ?_
    rintro e w5 ⟨rfl, k5, h5⟩
    have r5 := IsR.over hb0.2 hb0.1 (k5.mono (by simp))
    have q2 := (k5.has hO (by simp; omega)).cell 2 (v := .bool on) rfl
    clear y0 y2
    go_wp2_with fail
    refine (rrun_call r x on _ r5).mono ?_
    rintro e w6 ⟨rfl, k6, h6⟩
    have h6v := IsV.over h5 r5 k6
    go_wp2_with fail
    go_ret
    exact ⟨rfl, (k0.mono (by simp)).trans ((k5.mono (by simp)).trans (k6.mono (by simp))), o, .inl rfl, h6v, h6⟩
  by_cases k3 : k = 3
  · subst k3
    obtain rfl : y = x.come := by rw [← HY.out]; simp [V.step]
    clear k1 k2 hs0 hlow hlen y1 y2 y3 hown
    go_wp2_with fail
    refine (ValveC.fresh_call v g o x _ hb0.1).mono ?_
    rintro e w5 ⟨rfl, k5, h5⟩
    have r5 := IsR.over hb0.2 hb0.1 (k5.mono (by simp))
    clear y0
    go_wp2_with fail
    refine (rcome_call r x _ r5 hx.1).mono ?_
    rintro e w6 ⟨rfl, k6, h6⟩
    have h6v := IsV.over h5 r5 k6
    go_wp2_with fail
    go_ret
    exact ⟨rfl, (k0.mono (by simp)).trans ((k5.mono (by simp)).trans (k6.mono (by simp))), o, .inl rfl, h6v, h6⟩
  by_cases k4 : k = 4
  · subst k4
    obtain rfl : y = x.holds on := by rw [← HY.out]; simp [V.step]
    clear k1 k2 k3 hx hs0 hlow hlen y1 y3 hown
    go_wp2_with fail
    refine (ValveC.hold_call v g o x on _ hb0.1).mono ?_
    rintro e w5 ⟨rfl, k5, h5⟩
    have r5 := IsR.over hb0.2 hb0.1 (k5.mono (by simp))
    have q2 := (k5.has hO (by simp; omega)).cell 2 (v := .bool on) rfl
    clear y0 y2
    go_wp2_with fail
    refine (rhold_call r x on _ r5).mono ?_
    rintro e w6 ⟨rfl, k6, h6⟩
    have h6v := IsV.over h5 r5 k6
    go_wp2_with fail
    go_ret
    exact ⟨rfl, (k0.mono (by simp)).trans ((k5.mono (by simp)).trans (k6.mono (by simp))), o, .inl rfl, h6v, h6⟩
  by_cases k5 : k = 5
  · subst k5
    have hb5 := hO.lt
    have HB := Lib.hid hs0
    clear k1 k2 k3 k4 y1 y2 hs0
    go_wp2_with (at_builtin; refine wpList_app rfl _ _ rfl w0 (.slice sp l.length sc) l _ rfl rfl rfl HB.out hlen ?_)
    intro s5 w5 k5 g5 hg5 o5
    have hb5 := hb0.kept k5
    have hs5 := Bytes.low HB.out k5 hlow (by simp)
    have hO5 := k5.has hO (by simp)
    have K5 := k0.trans k5
    clear hb0 HB hO y0 y3 hg5 k5
    by_cases hn : (l.length : Int) = x.n
    · obtain rfl : y = x.take l := by rw [← HY.out]; simp [V.step, hn]
      have en : ((l.length : Int) != x.n) = false := by simp [hn]
      have hne0 : l ≠ [] := by rintro rfl; have := hx.2.1; simp at hn; omega
      have h8 : l.length ≤ 8 := by have := hx.2.2; omega
      go_wp2_with fail
      refine (take_call v g o x _ l _ hb5.1 o5.bytes hn.symm hne0 h8).mono ?_
      rintro e w6 ⟨rfl, k6, h6⟩
      have r6 := IsR.over hb5.2 hb5.1 (k6.mono (by simp))
      have y3 := (k6.has hO5 (by simp; omega)).cell 3 (v := .slice sp l.length sc) rfl
      have z0 : w6.cell? ⟨r, 0, none⟩ = some (.int .i64 x.n) := by obtain ⟨_, q, _⟩ := r6; exact q.cell 0 rfl
      have hs6 := Bytes.low hs5 k6 hlow (by simp; omega)
      have N0 := Lib.hid hne0
      clear hn hne0 hO5 hb5 hs5
      go_wp2_with fail
      go_quiet (fail)
      go_wp2_with fail
      refine (rtake_call r x _ l _ (r6.fresh ((Kept.refl [] _).drewN _)) (Bytes.low hs6 ((Kept.refl [] _).drewN _) hlow (by simp)) h8 (fun b off n c e hl => by have := hlow b off n c e hl; omega)).mono ?_
      rintro e w7 ⟨rfl, k7, h7⟩
      have h7v := IsV.over (h6.kept ((Kept.refl [] _).drewN _) (by simp)) (r6.fresh ((Kept.refl [] _).drewN _)) k7
      go_wp2_with fail
      go_ret
      exact ⟨rfl, (K5.mono (by simp)).trans ((k6.mono (by simp)).trans (((Kept.refl _ _).drewN _).trans (k7.mono (by simp)))), o, .inl rfl, h7v, h7⟩
    · obtain rfl : x = y := by rw [← HY.out]; simp [V.step, hn]
      have en : ((l.length : Int) != x.n) = true := by simp [hn]
      have hn' := Lib.hid hn
      clear hn
      go_wp2_with fail
      refine (take_len v g o x _ l _ hb5.1 o5.bytes (fun e => hn'.out e.symm)).mono ?_
      rintro e w6 ⟨rfl, k6⟩
      have b6 := hb5.kept k6
      have y3 := (k6.has hO5 (by simp)).cell 3 (v := .slice sp l.length sc) rfl
      have z0 : w6.cell? ⟨r, 0, none⟩ = some (.int .i64 x.n) := by obtain ⟨_, q, _⟩ := b6.2; exact q.cell 0 rfl
      clear hO5 hb5 hs5
      go_wp2_with fail
      go_quiet (fail)
      go_wp2_with fail
      go_ret
      exact ⟨rfl, (K5.mono (by simp)).trans ((k6.mono (by simp)).trans ((Kept.refl _ _).drewN _)), o, .inl rfl, b6.kept ((Kept.refl _ _).drewN _)⟩
  by_cases k6 : k = 6
  · subst k6
    obtain rfl : y = x.ack := by rw [← HY.out]; simp [V.step]
    clear k1 k2 k3 k4 k5 hx hs0 hlow hlen y1 y2 y3 hown
    go_wp2_with fail
    refine (rack_call r x _ hb0.2).mono ?_
    rintro e w5 ⟨rfl, k5, h5⟩
    have v5 := IsV.over hb0.1 hb0.2 k5
    clear y0
    by_cases hq : x.request
    · have eq1 : (!x.request) = false := by simp [hq]
      have er : (if x.request then (0 : Int) else 110) = 0 := by simp [hq]
      have A := ack_call v g o x _ v5
      rw [er] at A
      clear hq er
      have A := Lib.hid A
      go_wp2_with fail
      refine A.out.mono ?_
      rintro e w6 ⟨rfl, k6, o', ho', h6⟩
      have h6r := IsR.over h5 v5 k6
      have hz := k5.size
      have hz0 := k0.size
      go_wp2_with fail
      go_ret
      exact ⟨rfl, (k0.mono (by simp)).trans ((k5.mono (by simp)).trans (k6.mono (by simp))), o', by omega, h6, h6r⟩
    · have eq1 : (!x.request) = true := by simp [hq]
      have er : (if x.request then (0 : Int) else 110) = 110 := by simp [hq]
      have A := ack_call v g o x _ v5
      rw [er] at A
      clear hq er
      have A := Lib.hid A
      go_wp2_with fail
      refine A.out.mono ?_
      rintro e w6 ⟨rfl, k6, o', ho', h6⟩
      have h6r := IsR.over h5 v5 k6
      have hz := k5.size
      have hz0 := k0.size
      go_wp2_with fail
      go_ret
      exact ⟨rfl, (k0.mono (by simp)).trans ((k5.mono (by simp)).trans (k6.mono (by simp))), o', by omega, h6, h6r⟩
  · obtain rfl : x = y := by rw [← HY.out]; simp [V.step, k1, k2, k3, k4, k5, k6]
    have e1 : (k == 1) = false := by simp [k1]
    have e2 : (k == 2) = false := by simp [k2]
    have e3 : (k == 3) = false := by simp [k3]
    have e4 : (k == 4) = false := by simp [k4]
    have e5 : (k == 5) = false := by simp [k5]
    have e6 : (k == 6) = false := by simp [k6]
    clear k1 k2 k3 k4 k5 k6 hx hs0 hlow hlen y1 y2 y3 hown
    go_wp2_with fail
    go_ret
    exact ⟨rfl, k0.mono (by simp), o, .inl rfl, hb0⟩
end Go.Proofs.Ytlafkeijikbenab.S11
