/- Contracts of the document's valve. -/
import Derived.Test.YtlafkeijikbenabValveC
namespace Go.Proofs.Ytlafkeijikbenab.ValveR
open Go Go.RowKit Go.Proofs.Ytlafkeijikbenab.Hp Go.Proofs.Ytlafkeijikbenab.GateC Go.Proofs.Ytlafkeijikbenab.Sl Go.Proofs.Ytlafkeijikbenab.ValveC
set_option linter.unusedVariables false
set_option linter.unusedSimpArgs false
def IsR (w : World) (r : Nat) (x : V) : Prop :=
  ∃ s, Has w r 41 [.int .i64 x.n, .bool x.running, .bool x.hold, .bool x.fresh, .int .i64 x.latched, s, .bool x.value.isSome] ∧ Val w s x.value
theorem IsR.kept {w w' : World} {r : Nat} {x : V} {S : List Nat} (h : IsR w r x) (k : Kept S w w') (hS : ∀ b, b ∈ S → b < w.heap.size → ∃ T cs, Has w b T cs ∧ T ≠ 5 ∧ T ≠ 41) : IsR w' r x := by
  obtain ⟨s, h1, h3⟩ := h
  refine ⟨s, k.has h1 ?_, h3.kept k (fun b hb hl => by obtain ⟨T, cs, q, n, _⟩ := hS b hb hl; exact ⟨T, cs, q, n⟩)⟩
  intro hb; obtain ⟨T, cs, q, n1, n2⟩ := hS _ hb h1.lt; exact Has.ne h1 q (fun e => n2 e.symm) rfl
theorem IsR.fresh {w w' : World} {r : Nat} {x : V} (h : IsR w r x) (k : Kept [] w w') : IsR w' r x := h.kept k (by simp)
/-- Cell i of the valve is written. -/
theorem Val.set {w : World} {s v : Value} {l : Option (List Int)} {r i : Nat} {cs : List Value} (h : Val w s l) (hr : Has w r 41 cs) : Val (w.setCell ⟨r, i, none⟩ v) s l :=
  h.kept ((Kept.refl [r] w).set ⟨r, i, none⟩ v (by simp)) (by intro b hb hl; simp at hb; subst hb; exact ⟨_, _, hr, by decide⟩)

theorem rtrip_call (r : Nat) (x : V) (c : Int) (w : World) (h : IsR w r x) : Calls Try.prog 49 #[.pointer (some ⟨r, 0, none⟩), .int .i64 c] w fun e w' => e = .returned (.bool (decide (c ≠ 0) && decide (x.latched = 0))) ∧ Kept [r] w w' ∧ IsR w' r (x.trip c) := by
  by_cases hc : c = 0
  · have e0 : (c == 0) = true := by simp [hc]
    have e9 : x.trip c = x := by simp [V.trip, hc]
    have er : (decide (c ≠ 0) && decide (x.latched = 0)) = false := by simp [hc]
    rw [e9, er]
    have h' := Lib.hid h
    clear h hc e9 er
    go_enter Try.func49, Try.ntmps49
    go_wp2
    go_ret
    exact ⟨rfl, Kept.refl _ _, h'.out⟩
  · have e0 : (c == 0) = false := by simp [hc]
    have er : (decide (c ≠ 0) && decide (x.latched = 0)) = decide (x.latched = 0) := by simp [hc]
    rw [er]
    obtain ⟨s, h1, h3⟩ := h
    have c3 := h1.cell 3 (v := .bool x.fresh) rfl
    have c4 := h1.cell 4 (v := .int .i64 x.latched) rfl
    have c5 := h1.cell 5 (v := s) rfl
    have c6 := h1.cell 6 (v := .bool x.value.isSome) rfl
    have z3 := h1.free 3
    have z4 := h1.free 4
    have z5 := h1.free 5
    have z6 := h1.free 6
    by_cases h0 : x.latched = 0
    · have e1 : (x.latched != 0) = false := by simp [h0]
      have e2 : decide (x.latched = 0) = true := by simp [h0]
      have ex : x.trip c = ⟨x.n, x.running, false, x.hold, c, none⟩ := by simp [V.trip, hc, h0]
      rw [ex, e2]
      have H1 := Lib.hid h1
      clear h1 h3 hc er h0 e2 ex
      go_enter Try.func49, Try.ntmps49
      go_wp2
      go_ret
      refine ⟨rfl, ((((Kept.refl [r] w).set ⟨r, 6, none⟩ (.bool false) (by simp)).set ⟨r, 5, none⟩ (.slice none 0 0) (by simp)).set ⟨r, 3, none⟩ (.bool false) (by simp)).set ⟨r, 4, none⟩ (.int .i64 c) (by simp), _, (((H1.out.set 6 (.bool false)).set 5 (.slice none 0 0)).set 3 (.bool false)).set 4 (.int .i64 c), rfl⟩
    · have e1 : (x.latched != 0) = true := by simp [h0]
      have e2 : decide (x.latched = 0) = false := by simp [h0]
      have ex : x.trip c = ⟨x.n, x.running, false, x.hold, x.latched, none⟩ := by simp [V.trip, hc, h0]
      rw [ex, e2]
      have H1 := Lib.hid h1
      clear h1 h3 hc er h0 e2 ex
      go_enter Try.func49, Try.ntmps49
      go_wp2
      go_ret
      refine ⟨rfl, (((Kept.refl [r] w).set ⟨r, 6, none⟩ (.bool false) (by simp)).set ⟨r, 5, none⟩ (.slice none 0 0) (by simp)).set ⟨r, 3, none⟩ (.bool false) (by simp), _, ((H1.out.set 6 (.bool false)).set 5 (.slice none 0 0)).set 3 (.bool false), rfl⟩
theorem rrun_call (r : Nat) (x : V) (on : Bool) (w : World) (h : IsR w r x) : Calls Try.prog 50 #[.pointer (some ⟨r, 0, none⟩), .bool on] w fun e w' => e = .returned (.tuple #[]) ∧ Kept [r] w w' ∧ IsR w' r (x.run on) := by
  have h' := Lib.hid h
  obtain ⟨s, h1, h3⟩ := h
  have c1 := h1.cell 1 (v := .bool x.running) rfl
  have c2 := h1.cell 2 (v := .bool x.hold) rfl
  have c5 := h1.cell 5 (v := s) rfl
  have c6 := h1.cell 6 (v := .bool x.value.isSome) rfl
  have z1 := h1.free 1
  have z2 := h1.free 2
  have z5 := h1.free 5
  have z6 := h1.free 6
  have H1 := Lib.hid h1
  by_cases e : x.running = on
  · have e1 : (x.running == on) = true := by simp [e]
    have e9 : x.run on = x := by simp [V.run, e]
    rw [e9]
    clear h1 h3 e e9
    go_enter Try.func50, Try.ntmps50
    go_wp2
    refine bodyPost_ret (results_none rfl _ _ _) rfl ?_
    exact ⟨rfl, Kept.refl _ _, h'.out⟩
  · have e1 : (x.running == on) = false := by simp [e]
    have e9 : x.run on = ⟨x.n, on, x.fresh, false, x.latched, none⟩ := by simp [V.run, e]
    rw [e9]
    clear h1 h3 e e9
    go_enter Try.func50, Try.ntmps50
    go_wp2
    go_end0
    refine ⟨rfl, ((((Kept.refl [r] w).set ⟨r, 1, none⟩ (.bool on) (by simp)).set ⟨r, 2, none⟩ (.bool false) (by simp)).set ⟨r, 6, none⟩ (.bool false) (by simp)).set ⟨r, 5, none⟩ (.slice none 0 0) (by simp), _, (((H1.out.set 1 (.bool on)).set 2 (.bool false)).set 6 (.bool false)).set 5 (.slice none 0 0), rfl⟩
theorem rhold_call (r : Nat) (x : V) (on : Bool) (w : World) (h : IsR w r x) : Calls Try.prog 52 #[.pointer (some ⟨r, 0, none⟩), .bool on] w fun e w' => e = .returned (.tuple #[]) ∧ Kept [r] w w' ∧ IsR w' r (x.holds on) := by
  obtain ⟨s, h1, h3⟩ := h
  have c1 := h1.cell 1 (v := .bool x.running) rfl
  have c2 := h1.cell 2 (v := .bool x.hold) rfl
  have z2 := h1.free 2
  have h9 : IsR (w.setCell ⟨r, 2, none⟩ (.bool (on && x.running))) r (x.holds on) := ⟨s, h1.set 2 _, Val.set h3 h1⟩
  have H9 := Lib.hid h9
  clear h1 h3 h9
  cases on
  · go_enter Try.func52, Try.ntmps52
    go_wp2
    go_end0
    exact ⟨rfl, (Kept.refl [r] w).set ⟨r, 2, none⟩ _ (by simp), H9.out⟩
  · go_enter Try.func52, Try.ntmps52
    go_wp2
    go_end0
    exact ⟨rfl, (Kept.refl [r] w).set ⟨r, 2, none⟩ _ (by simp), H9.out⟩
/-- What Come leaves. -/
theorem rcome_call (r : Nat) (x : V) (w : World) (h : IsR w r x) (hx : x.latched = 0 → x.fresh = false) : Calls Try.prog 51 #[.pointer (some ⟨r, 0, none⟩)] w fun e w' => e = .returned (.tuple #[]) ∧ Kept [r] w w' ∧ IsR w' r x.come := by
  have h' := Lib.hid h
  obtain ⟨s, h1, h3⟩ := h
  have c3 := h1.cell 3 (v := .bool x.fresh) rfl
  have c4 := h1.cell 4 (v := .int .i64 x.latched) rfl
  have z3 := h1.free 3
  by_cases h0 : x.latched = 0
  · have e1 : (x.latched != 0) = false := by simp [h0]
    have e9 : x.come = x := by
      have := hx h0
      rcases x with ⟨a, b, c, d, e, f⟩
      simp only [] at this h0
      simp [V.come, h0, this]
    rw [e9]
    clear h1 h3 h0 hx e9
    go_enter Try.func51, Try.ntmps51
    go_wp2
    go_end0
    exact ⟨rfl, Kept.refl _ _, h'.out⟩
  · have e1 : (x.latched != 0) = true := by simp [h0]
    have e9 : x.come = ⟨x.n, x.running, true, x.hold, x.latched, x.value⟩ := by simp [V.come, h0]
    rw [e9]
    have h9 : IsR (w.setCell ⟨r, 3, none⟩ (.bool true)) r ⟨x.n, x.running, true, x.hold, x.latched, x.value⟩ := ⟨s, h1.set 3 _, Val.set h3 h1⟩
    have H9 := Lib.hid h9
    clear h1 h3 h0 hx e9 h9
    go_enter Try.func51, Try.ntmps51
    go_wp2
    go_end0
    exact ⟨rfl, (Kept.refl [r] w).set ⟨r, 3, none⟩ _ (by simp), H9.out⟩
theorem rrequest_call (r : Nat) (x : V) (w : World) (h : IsR w r x) : Calls Try.prog 48 #[.pointer (some ⟨r, 0, none⟩)] w fun e w' => e = .returned (.bool x.request) ∧ w = w' := by
  obtain ⟨s, h1, h3⟩ := h
  have c1 := h1.cell 1 (v := .bool x.running) rfl
  have c3 := h1.cell 3 (v := .bool x.fresh) rfl
  have c4 := h1.cell 4 (v := .int .i64 x.latched) rfl
  clear h3 h1
  obtain ⟨n, ru, f, hd, lt, vl⟩ := x
  cases ru
  · go_enter Try.func48, Try.ntmps48
    go_wp2
    go_ret
    exact ⟨rfl, rfl⟩
  · have e9 : V.request ⟨n, true, f, hd, lt, vl⟩ = ((lt != 0) && f) := by simp [V.request, Bool.and_comm]
    rw [e9]
    rcases hl : (lt != 0) with _ | _
    · go_enter Try.func48, Try.ntmps48
      go_wp2
      go_ret
      exact ⟨rfl, rfl⟩
    · go_enter Try.func48, Try.ntmps48
      go_wp2
      go_ret
      exact ⟨rfl, rfl⟩
theorem rack_call (r : Nat) (x : V) (w : World) (h : IsR w r x) : Calls Try.prog 54 #[.pointer (some ⟨r, 0, none⟩)] w fun e w' => e = .returned (.bool x.request) ∧ Kept [r] w w' ∧ IsR w' r x.ack := by
  have hv := Lib.hid h
  by_cases hr : x.request = true
  · have ea : x.ack = ⟨x.n, x.running, false, x.hold, 0, x.value⟩ := by simp [V.ack, hr]
    rw [ea, hr]
    obtain ⟨s, h1, h3⟩ := h
    have c3 := h1.cell 3 (v := .bool x.fresh) rfl
    have c4 := h1.cell 4 (v := .int .i64 x.latched) rfl
    have z3 := h1.free 3
    have z4 := h1.free 4
    have h2 := h1.set 4 (.int .i64 0)
    have h9 : IsR ((w.setCell ⟨r, 4, none⟩ (.int .i64 0)).setCell ⟨r, 3, none⟩ (.bool false)) r ⟨x.n, x.running, false, x.hold, 0, x.value⟩ := ⟨s, h2.set 3 (.bool false), Val.set (Val.set h3 h1) h2⟩
    have H9 := Lib.hid h9
    have er : (!x.request) = false := by simp [hr]
    clear hr ea h1 h3 h9 h2
    go_enter Try.func54, Try.ntmps54
    go_wp2_with fail
    refine (rrequest_call r x _ hv.out).mono ?_
    rintro e w2 ⟨rfl, rfl⟩
    go_wp2_with fail
    go_ret
    exact ⟨rfl, ((Kept.refl [r] w).set ⟨r, 4, none⟩ (.int .i64 0) (by simp)).set ⟨r, 3, none⟩ (.bool false) (by simp), H9.out⟩
  · have hr : x.request = false := by simpa using hr
    have ea : x.ack = x := by simp [V.ack, hr]
    rw [ea, hr]
    have er : (!x.request) = true := by simp [hr]
    clear hr ea h
    go_enter Try.func54, Try.ntmps54
    go_wp2_with fail
    refine (rrequest_call r x _ hv.out).mono ?_
    rintro e w2 ⟨rfl, rfl⟩
    go_wp2
    go_ret
    exact ⟨rfl, Kept.refl _ _, hv.out⟩
set_option maxHeartbeats 1600000 in
theorem rtake_call (r : Nat) (x : V) (a : Value) (l : List Int) (w : World) (h : IsR w r x) (ha : Bytes w a l) (h8 : l.length ≤ 8) (hna : ∀ b off n c, a = .slice (some ⟨b, off, none⟩) n c → l ≠ [] → b ≠ r) :
    Calls Try.prog 53 #[.pointer (some ⟨r, 0, none⟩), a] w fun e w' => e = .returned (.tuple #[]) ∧ Kept [r] w w' ∧ IsR w' r (x.take l) := by
  have h' := Lib.hid h
  obtain ⟨s, h1, h3⟩ := h
  have c1 := h1.cell 1 (v := .bool x.running) rfl
  have c4 := h1.cell 4 (v := .int .i64 x.latched) rfl
  have c6 := h1.cell 6 (v := .bool x.value.isSome) rfl
  have z6 := h1.free 6
  by_cases hr : x.running && (x.latched == 0)
  · have ex : x.take l = ⟨x.n, x.running, x.fresh, x.hold, x.latched, some l⟩ := by simp only [V.take, hr]; rfl
    rw [ex]
    obtain ⟨hr1, hr2⟩ := by simpa only [Bool.and_eq_true] using hr
    rw [hr1] at c1
    have R := Lib.hid hr1
    have h2 := h1.set 6 (.bool true)
    have hk := (Kept.refl [r] w).set ⟨r, 6, none⟩ (.bool true) (by simp)
    have hB : Bytes (w.setCell ⟨r, 6, none⟩ (.bool true)) a l := ha.kept hk (by intro b off n c e hl; simpa using hna b off n c e hl)
    have H2 := Lib.hid h2
    have HB := Lib.hid hB
    have HK := Lib.hid hk
    clear hr ex hr1 h1 h3 ha hna h2 hB hk
    go_enter Try.func53, Try.ntmps53
    go_wp2_with (at_builtin; refine wpList_app rfl _ _ rfl (w.setCell ⟨r, 6, none⟩ (.bool true)) a l w.heap.size (by simp) rfl rfl HB.out (by omega) ?_)
    intro v' w2 k2 g hg ho
    try simp only [World.size_setCell] at hg
    obtain ⟨cap, cur, ecv, _⟩ := id ho
    subst ecv
    have HO := Lib.hid ho
    have hh := k2.has H2.out (by simp)
    have c5 := hh.cell 5 (v := s) rfl
    have z5 := hh.free 5
    have HH := Lib.hid hh
    have hl := H2.out.lt
    rw [World.size_setCell] at hl
    clear hh ho
    go_wp2
    go_end0
    have e9 : x.running = true := R.out
    have HV := HH.out.set 5 (.slice (some ⟨g, 0, none⟩) l.length cap)
    have n3 : g ≠ r := by omega
    have hk3 := (Kept.refl [r] w2).set ⟨r, 5, none⟩ (.slice (some ⟨g, 0, none⟩) l.length cap) (by simp)
    refine ⟨rfl, (HK.out.trans (k2.mono (by simp))).trans hk3, _, by simpa [e9] using HV, h8, g, HO.out.kept hk3 (by simp [n3])⟩
  · have ex : x.take l = x := by simp only [V.take, hr]; rfl
    rw [ex]
    have hr' : (x.running && (x.latched == 0)) = false := by simpa using hr
    clear hr ex h1 h3 ha hna
    rcases hx : x.running with _ | _
    · rw [hx] at c1
      clear hx hr'
      go_enter Try.func53, Try.ntmps53
      go_wp2_with fail
      go_end0
      exact ⟨rfl, Kept.refl _ _, h'.out⟩
    · rw [hx] at c1 hr'
      rw [Bool.true_and] at hr'
      clear hx
      go_enter Try.func53, Try.ntmps53
      go_wp2_with fail
      go_end0
      exact ⟨rfl, Kept.refl _ _, h'.out⟩
set_option maxHeartbeats 1600000 in
theorem routput_call (r : Nat) (x : V) (w : World) (h : IsR w r x) (hn : 1 ≤ x.n) (h8 : x.n ≤ 8) :
    Calls Try.prog 47 #[.pointer (some ⟨r, 0, none⟩)] w fun e w' => ∃ s, e = .returned (.tuple #[s, .bool x.on]) ∧ Kept [] w w' ∧ Outs w w' s x.out := by
  obtain ⟨s, h1', h3⟩ := h
  have c0 := h1'.cell 0 (v := .int .i64 x.n) rfl
  have c1 := h1'.cell 1 (v := .bool x.running) rfl
  have c2 := h1'.cell 2 (v := .bool x.hold) rfl
  have c5 := h1'.cell 5 (v := s) rfl
  have c6 := h1'.cell 6 (v := .bool x.value.isSome) rfl
  have hm := info_make x.n hn h8
  have hz : Outs w (w.alloc (.cells (U8 (List.replicate x.n.toNat 0)).toArray 5)) (.slice (some ⟨w.heap.size, 0, none⟩) x.n.toNat x.n.toNat) (List.replicate x.n.toNat 0) := by
    refine ⟨w.heap.size, Nat.le_refl _, x.n.toNat, U8 (List.replicate x.n.toNat 0), by simp, Has.new w _ _, by simp, by unfold maxLen; omega, by simp [U8], ?_⟩
    rw [List.take_of_length_le (by simp [U8])]
  have hk := (Kept.refl [] w).alloc (.cells (U8 (List.replicate x.n.toNat 0)).toArray 5)
  have HZ := Lib.hid hz
  have hlr := h1'.lt
  have HK := Lib.hid hk
  have H1 := Lib.hid hn
  clear hz hk h1' hn h8
  by_cases hr : x.running
  case neg =>
    have eo : x.on = false := by simp [V.on, hr]
    have el : x.out = List.replicate x.n.toNat 0 := by simp [V.out, eo]
    rw [eo, el]
    simp at hr
    rw [hr] at c1
    clear hr eo el h3
    go_enter Try.func47, Try.ntmps47
    go_wp2
    go_ret2
    exact ⟨_, rfl, HK.out, HZ.out⟩
  rw [hr] at c1
  by_cases hh : x.hold
  · have eo : x.on = false := by simp [V.on, hh]
    have el : x.out = List.replicate x.n.toNat 0 := by simp [V.out, eo]
    rw [eo, el]
    rw [hh] at c2
    clear hr hh eo el h3
    go_enter Try.func47, Try.ntmps47
    go_wp2
    go_ret2
    exact ⟨_, rfl, HK.out, HZ.out⟩
  simp at hh
  rw [hh] at c2
  cases hv : x.value with
  | none =>
    have eo : x.on = false := by simp [V.on, hv]
    have el : x.out = List.replicate x.n.toNat 0 := by simp [V.out, eo]
    rw [eo, el]
    rw [hv] at c6
    rw [Option.isSome_none] at c6
    clear hr hh hv eo el h3
    go_enter Try.func47, Try.ntmps47
    go_wp2
    go_ret2
    exact ⟨_, rfl, HK.out, HZ.out⟩
  | some l =>
    have eo : x.on = true := by simp [V.on, hv, hr, hh]
    have el : x.out = l := by simp [V.out, eo, hv]
    rw [eo, el]
    rw [hv] at h3 c6
    rw [Option.isSome_some] at c6
    obtain ⟨h8, kk, ho⟩ := h3
    have HB := Lib.hid ho.bytes
    have hl := ho.lt
    clear hr hh hv eo el ho
    go_enter Try.func47, Try.ntmps47
    go_wp2_with (at_builtin; refine wpList_app rfl _ _ rfl w s l w.heap.size rfl rfl rfl HB.out (by omega) ?_)
    intro v' w2 k2 g hg ho
    try simp only [World.size_setCell] at hg
    have HO := Lib.hid ho
    clear ho
    go_wp2
    go_ret2
    exact ⟨v', rfl, k2, g, hg, HO.out⟩
end Go.Proofs.Ytlafkeijikbenab.ValveR
