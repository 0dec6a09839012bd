/- The document's meter beside the program's: what both hold; the document's calls. -/
import Derived.Test.YtlafkeijikbenaaS05b
import Derived.Test.YtlafkeijikbenaaMeterR
import Derived.Deep.RegionHeld3
namespace Go.Proofs.Ytlafkeijikbenaa.Law05
open Go Go.RowKit Go.Proofs.Ytlafkeijikbenaa.Hp Go.Proofs.Ytlafkeijikbenaa.Atom Go.Proofs.Ytlafkeijikbenaa.AtomC Go.Proofs.Ytlafkeijikbenaa.MeterC
set_option linter.unusedVariables false
set_option linter.unusedSimpArgs false
/-- What a meter holds, as the document has it. -/
structure St where
  total : Int
  peak : Int
  any : Bool
  flags : Int
  on : Bool
  note : Option R
def St.ok (s : St) : Prop := 0 ≤ s.total ∧ s.total ≤ 18446744073709551615 ∧ (s.any = false → s.peak = 0) ∧ 0 ≤ s.flags ∧ s.flags ≤ 4294967295
def St.cells (s : St) : List Value := [.int .u64 s.total, .int .i64 s.peak, .bool s.any, .int .u32 s.flags, .bool s.on, .int .i64 (recOf s.note).at_, .int .i64 (recOf s.note).code, .int .u32 (recOf s.note).session, .int .u32 (recOf s.note).number, .bool s.note.isSome]
def IsV (w : World) (b : Nat) (s : St) : Prop := Has w b 46 s.cells
def St.m (s : St) (last : Option Addr) : M := ⟨s.total, s.peak, s.any, s.flags, s.on, last⟩
def IsA (w : World) (b : Nat) (s : St) : Prop := ∃ last, IsN w b (s.m last) s.note
def St.zero : St := ⟨0, 0, false, 0, false, none⟩
theorem St.zero_ok : St.zero.ok := ⟨by decide, by decide, fun _ => rfl, by decide, by decide⟩
theorem IsA.kept {w w' : World} {b : Nat} {s : St} {S : List Nat} (h : IsA w b s) (k : Kept S w w') (hb : b ∉ S) (hs : ∀ i, i ∈ S → i < w.heap.size → ∃ T cs, T ≠ 44 ∧ Has w i T cs) : IsA w' b s := by
  obtain ⟨l, h⟩ := h
  exact ⟨l, h.kept k hb hs⟩
theorem IsV.kept {w w' : World} {b : Nat} {s : St} {S : List Nat} (h : IsV w b s) (k : Kept S w w') (hb : b ∉ S) : IsV w' b s := k.has h hb
theorem IsA.ne {w : World} {a b : Nat} {s t : St} (h : IsA w a s) (h' : IsV w b t) : a ≠ b := by
  obtain ⟨l, h, _⟩ := h
  exact Has.ne h h' (by decide)

theorem refAdd_call (b : Nat) (s : St) (n : Int) (w : World) (h : IsV w b s) (hs : s.ok) (n0 : 0 ≤ n) (n1 : n ≤ 18446744073709551615) :
    Calls Try.prog 58 #[.pointer (some ⟨b, 0, none⟩), .int .u64 n] w fun e w' => e = .returned (.int .u64 (addv s.total n)) ∧ Kept [b] w w' ∧ IsV w' b { s with total := addv s.total n } := by
  obtain ⟨h0, h1, -, -, -⟩ := hs
  have c0 := h.cell 0 (v := .int .u64 s.total) rfl
  have z0 := h.free 0
  by_cases ho : 18446744073709551615 - s.total < n
  · have e := addv_over s.total n n0 n1 h1 ho
    have hf := h.set 0 (.int .u64 18446744073709551615)
    rw [e]
    have F' := Lib.hid hf
    clear hf e
    have hd : decide (18446744073709551615 - s.total < n) = true := by simpa using ho
    go_enter Try.func58, Try.ntmps58
    go_wp2_with fail
    go_ret
    exact ⟨rfl, (Kept.refl _ _).set _ _ (by simp), F'.out⟩
  · have e := addv_sum s.total n n0 h0 (by omega)
    have hf := h.set 0 (.int .u64 (s.total + n))
    rw [e]
    have F' := Lib.hid hf
    clear hf e
    have hd : decide (18446744073709551615 - s.total < n) = false := by simpa using ho
    go_enter Try.func58, Try.ntmps58
    go_wp2_with fail
    go_ret
    exact ⟨rfl, (Kept.refl _ _).set _ _ (by simp), F'.out⟩
theorem refRaise_call (b : Nat) (s : St) (v : Int) (w : World) (h : IsV w b s) :
    Calls Try.prog 59 #[.pointer (some ⟨b, 0, none⟩), .int .i64 v] w fun e w' => e = .returned (.bool (MeterC.raised (s.m none) v)) ∧ Kept [b] w w' ∧
      IsV w' b (if MeterC.raised (s.m none) v then { s with any := true, peak := v } else s) := by
  have c1 := h.cell 1 (v := .int .i64 s.peak) rfl
  have c2 := h.cell 2 (v := .bool s.any) rfl
  have z1 := h.free 1
  have z2 := h.free 2
  have hr : MeterC.raised (s.m none) v = (!s.any || decide (s.peak < v)) := rfl
  have hf := (h.set 2 (.bool true)).set 1 (.int .i64 v)
  have F' := Lib.hid hf
  have H' := Lib.hid h
  clear hf h
  cases ha : s.any with
  | false =>
    rw [ha] at c2 hr
    rw [hr]
    simp only [Bool.not_false, Bool.true_or, if_true]
    clear ha hr
    go_enter Try.func59, Try.ntmps59
    go_wp2_with fail
    go_ret
    exact ⟨rfl, ((Kept.refl _ _).set _ _ (by simp)).set _ _ (by simp), F'.out⟩
  | true =>
    rw [ha] at c2 hr
    by_cases hlt : s.peak < v
    · have hd : decide (s.peak < v) = true := by simpa using hlt
      rw [hr, hd]
      simp only [Bool.not_true, Bool.false_or, if_true]
      have hle : ¬ v ≤ s.peak := by omega
      clear ha hr hd
      go_enter Try.func59, Try.ntmps59
      go_wp2_with fail
      go_ret
      exact ⟨rfl, ((Kept.refl _ _).set _ _ (by simp)).set _ _ (by simp), F'.out⟩
    · have hd : decide (s.peak < v) = false := by simpa using hlt
      rw [hr, hd]
      simp only [Bool.not_true, Bool.or_self, Bool.false_eq_true, if_false]
      have hle : v ≤ s.peak := by omega
      clear ha hr hd
      go_enter Try.func59, Try.ntmps59
      go_wp2_with fail
      go_ret
      exact ⟨rfl, Kept.refl _ _, H'.out⟩
end Go.Proofs.Ytlafkeijikbenaa.Law05
