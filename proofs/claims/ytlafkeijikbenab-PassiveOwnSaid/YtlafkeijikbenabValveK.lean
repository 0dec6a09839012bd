/- A valve that holds a value: where that value lies. -/
import Derived.Test.YtlafkeijikbenabValveC
namespace Go.Proofs.Ytlafkeijikbenab.ValveC
open Go Go.RowKit Go.Proofs.Ytlafkeijikbenab.Hp Go.Proofs.Ytlafkeijikbenab.Atom Go.Proofs.Ytlafkeijikbenab.GateC Go.Proofs.Ytlafkeijikbenab.Sl
set_option linter.unusedVariables false
set_option linter.unusedSimpArgs false
/-- The valve holds l, in block kk. -/
def IsVk (w : World) (v g o kk : Nat) (x : V) (l : List Int) : Prop :=
  ∃ s t, Has w v 83 [.int .i64 x.n, .pointer (some ⟨g, 0, none⟩), .bool x.running, .bool x.fresh, .bool x.hold, s] ∧ IsG w g o ⟨x.latched, decide (x.latched ≠ 0), t⟩ ∧ x.value = some l ∧ l.length ≤ 8 ∧ Own w kk s l
theorem IsVk.v {w : World} {v g o kk : Nat} {x : V} {l : List Int} (h : IsVk w v g o kk x l) : IsV w v g o x := by
  obtain ⟨s, t, h1, h2, h3, h4, h5⟩ := h
  exact ⟨s, t, h1, h2, by rw [h3]; exact ⟨h4, kk, h5⟩⟩
theorem IsVk.lt {w : World} {v g o kk : Nat} {x : V} {l : List Int} (h : IsVk w v g o kk x l) : v < w.heap.size ∧ g < w.heap.size ∧ o < w.heap.size ∧ kk < w.heap.size := by
  obtain ⟨s, t, h1, h2, h3, h4, h5⟩ := h
  exact ⟨h1.lt, h2.1.lt, h2.2.lt, h5.lt⟩
theorem IsVk.kept {w w' : World} {v g o kk : Nat} {x : V} {l : List Int} {S : List Nat} (h : IsVk w v g o kk x l) (k : Kept S w w') (hv : v ∉ S) (hg : g ∉ S) (ho : o ∉ S) (hk : kk ∉ S) : IsVk w' v g o kk x l := by
  obtain ⟨s, t, h1, h2, h3, h4, h5⟩ := h
  exact ⟨s, t, k.has h1 hv, h2.kept k hg ho, h3, h4, h5.kept k hk⟩
def Took (w w' : World) (v g o : Nat) (x : V) (l : List Int) : Prop := ∃ kk, w.heap.size ≤ kk ∧ IsVk w' v g o kk (x.take l) l
set_option maxHeartbeats 1600000 in
theorem take_own (v g o : Nat) (x : V) (a : Value) (l : List Int) (w : World) (h : IsV w v g o x) (ha : Bytes w a l) (hn : x.n = (l.length : Int)) (h1 : l ≠ []) (h8 : l.length ≤ 8) (hr : (x.running && (x.latched == 0)) = true) :
    Calls Try.prog 17 #[.pointer (some ⟨v, 0, none⟩), a] w fun e w' => e = .returned (.int .i64 0) ∧ Kept [v] w w' ∧ Took w w' v g o x l := by
  have hv := Lib.hid h
  obtain ⟨s, t, h1', h2, h3⟩ := h
  have c0 := h1'.cell 0 (v := .int .i64 x.n) rfl
  have c1 := h1'.cell 1 (v := .pointer (some ⟨g, 0, none⟩)) rfl
  have c2 := h1'.cell 2 (v := .bool x.running) rfl
  have n1 : v ≠ g := Has.ne h1' h2.1 (by decide)
  have n2 : v ≠ o := Has.ne h1' h2.2 (by decide)
  have H1 := Lib.hid h1'
  obtain ⟨p, c, rfl⟩ := bytes_len ha
  have HA := Lib.hid ha
  have HN := Lib.hid h1
  have en : ((l.length : Int) != x.n) = false := by simp [hn]
  clear ha h1 h3 h1' hn
  have ex : x.take l = { x with value := some l } := by simp only [V.take, hr]; rfl
  unfold Took
  rw [ex]
  obtain ⟨hr1, hr2⟩ := by simpa only [Bool.and_eq_true] using hr
  rw [hr1] at c2
  have R := Lib.hid hr1
  clear hr ex hr1
  go_enter Try.func17, Try.ntmps17
  go_wp2_with fail
  refine (GateC.code_call g o _ _ h2).mono ?_
  rintro e w2 ⟨rfl, rfl⟩
  go_wp2_with fail
  refine (clone_call _ l _ HA.out (by omega)).mono ?_
  rintro e w2 ⟨cv, rfl, k2, hcl⟩
  have hown : ∃ kk, w.heap.size ≤ kk ∧ Own w2 kk cv l := by
    rcases hcl with ⟨e1, e2⟩ | ⟨_, kk, hk, ho⟩
    · rcases HA.out with ⟨_, e⟩ | ⟨x, cap, e, _⟩
      · exact absurd e HN.out
      · rw [e] at e1; cases e1
    · exact ⟨kk, hk, ho⟩
  obtain ⟨kk, hkk, ho⟩ := hown
  obtain ⟨cap, cur, ecv, _⟩ := id ho
  subst ecv
  have HO := Lib.hid ho
  have hh := k2.has H1.out (by simp)
  have c5 := hh.cell 5 (v := s) rfl
  have z5 := hh.free 5
  have HH := Lib.hid hh
  have hl := H1.out.lt
  have h2l := h2.1.lt
  have h2m := h2.2.lt
  clear hh hcl ho
  go_wp2
  go_ret
  have hk3 := (Kept.refl [v] w2).set ⟨v, 5, none⟩ (.slice (some ⟨kk, 0, none⟩) l.length cap) (by simp)
  have n3 : kk ≠ v := by omega
  have e9 : x.running = true := R.out
  have HV := HH.out.set 5 (.slice (some ⟨kk, 0, none⟩) l.length cap)
  refine ⟨rfl, (k2.mono (by simp)).trans hk3, kk, hkk, ⟨_, t, by simpa [e9] using HV, (h2.kept k2 (by simp) (by simp)).kept hk3 (by simp [n1.symm]) (by simp [n2.symm]), rfl, h8, HO.out.kept hk3 (by simp [n3])⟩⟩
end Go.Proofs.Ytlafkeijikbenab.ValveC
