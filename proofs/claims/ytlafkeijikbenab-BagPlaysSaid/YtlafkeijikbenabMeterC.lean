/- Contracts of meter's calls, in the run of one goroutine. -/
import Derived.Test.YtlafkeijikbenabAtomD
namespace Go.Proofs.Ytlafkeijikbenab.MeterC
open Go Go.RowKit Go.Proofs.Ytlafkeijikbenab.Hp Go.Proofs.Ytlafkeijikbenab.Atom Go.Proofs.Ytlafkeijikbenab.AtomC
set_option linter.unusedVariables false
set_option linter.unusedSimpArgs false

/-- What a meter holds. -/
structure M where
  total : Int
  peak : Int
  any : Bool
  flags : Int
  on : Bool
  last : Option Addr
def M.cells (m : M) : List Value := [.int .u64 m.total, .int .i64 m.peak, .int .u32 (b32 m.any), .int .u32 m.flags, .int .u32 (b32 m.on), .pointer m.last]
def IsM (w : World) (b : Nat) (m : M) : Prop := Has w b 129 m.cells
def M.new : M := ⟨0, 0, false, 0, false, none⟩

theorem new_call (w : World) : Calls Try.prog 57 #[] w fun e w' => e = .returned (.pointer (some ⟨w.heap.size, 0, none⟩)) ∧ Kept [] w w' ∧ IsM w' w.heap.size M.new := by
  go_enter Try.func57, Try.ntmps57
  go_wp2
  go_ret
  exact ⟨rfl, (Kept.refl _ _).alloc _, Has.new w _ _⟩

def addv (t n : Int) : Int := if IntKind.u64.wrap (t + n) < t then 18446744073709551615 else IntKind.u64.wrap (t + n)
def M.add (m : M) (n : Int) : M := { m with total := addv m.total n }
theorem add_call (b : Nat) (m : M) (n : Int) (w : World) (h : IsM w b m) :
    Calls Try.prog 58 #[.pointer (some ⟨b, 0, none⟩), .int .u64 n] w fun e w' => e = .returned (.tuple #[.int .u64 (addv m.total n), .int .i64 0]) ∧ Kept [b] w w' ∧ IsM w' b (m.add n) := by
  have c0 := h.cell 0 (v := .int .u64 m.total) rfl
  have z0 := h.free 0
  go_enter Try.func58, Try.ntmps58
  go_wp2_with fail
  refine wp_loop_once ?_
  go_wp2_with (first | (go_at_call 71; refine (u64_load _ _ _ c0).mono ?_; rintro e w' ⟨rfl, rfl⟩) | (go_at_call 72; refine (u64_cas _ _ _ _ c0 z0).mono ?_; rintro e w' ⟨rfl, rfl⟩))
  · have e : addv m.total n = 18446744073709551615 := if_pos (by assumption)
    go_ret2
    exact ⟨by rw [e]; rfl, (Kept.refl _ _).set _ _ (by simp), by unfold M.add; rw [e]; exact h.set 0 _⟩
  · have e : addv m.total n = IntKind.u64.wrap (m.total + n) := if_neg (by omega)
    go_ret2
    exact ⟨by rw [e]; rfl, (Kept.refl _ _).set _ _ (by simp), by unfold M.add; rw [e]; exact h.set 0 _⟩
theorem total_call (b : Nat) (m : M) (w : World) (h : IsM w b m) :
    Calls Try.prog 65 #[.pointer (some ⟨b, 0, none⟩)] w fun e w' => e = .returned (.int .u64 m.total) ∧ w = w' := by
  have c0 := h.cell 0 (v := .int .u64 m.total) rfl
  go_enter Try.func65, Try.ntmps65
  go_wp2_with (first | (go_at_call 71; refine (u64_load _ _ _ c0).mono ?_; rintro e w' ⟨rfl, rfl⟩))
  go_ret
  exact ⟨rfl, rfl⟩
/-- does a raising count? -/
def raised (m : M) (v : Int) : Bool := !m.any || decide (m.peak < v)
def M.raise (m : M) (v : Int) : M := if raised m v then { m with any := true, peak := v } else m
theorem raise_call (b : Nat) (m : M) (v : Int) (w : World) (h : IsM w b m) :
    Calls Try.prog 59 #[.pointer (some ⟨b, 0, none⟩), .int .i64 v] w fun e w' => e = .returned (.bool (raised m v)) ∧ Kept [b] w w' ∧ IsM w' b (m.raise v) := by
  have c1 := h.cell 1 (v := .int .i64 m.peak) rfl
  have c2 := h.cell 2 (v := .int .u32 (b32 m.any)) rfl
  have z1 := h.free 1
  have z2 := h.free 2
  cases ha : m.any with
  | false =>
    rw [ha] at c2
    have hr : raised m v = true := by simp [raised, ha]
    rw [hr, show m.raise v = { m with any := true, peak := v } from by simp [M.raise, hr]]
    clear ha hr
    have h1 := h.drew.set 2 (.int .u32 1)
    have d1 := h1.cell 1 (v := .int .i64 m.peak) rfl
    have y1 := h1.free 1
    go_enter Try.func59, Try.ntmps59
    go_wp2_with (first | (go_at_call 73; refine (bool_cas_ft _ false _ c2 z2).mono ?_; rintro e w' ⟨rfl, rfl⟩; simp only [Bool.not_false, Bool.false_eq_true, if_false]) | (go_at_call 70; refine (i64_store _ _ _ _ d1 y1).mono ?_; rintro e w' ⟨rfl, rfl⟩))
    go_ret
    exact ⟨rfl, (((Kept.refl _ _).drew.set _ _ (by simp)).set _ _ (by simp)), h1.set 1 _⟩
  | true =>
    rw [ha] at c2
    have hr : raised m v = decide (m.peak < v) := by simp [raised, ha]
    have he : m.raise v = if m.peak < v then { m with peak := v } else m := by simp only [M.raise, hr, decide_eq_true_eq]; split; · rw [← ha]
                                                                               · rfl
    rw [hr, he]
    clear ha hr he
    have d1 := h.drew.cell 1 (v := .int .i64 m.peak) rfl
    have y1 := h.drew.free 1
    by_cases hlt : m.peak < v
    · rw [if_pos hlt]
      have hd : decide (m.peak < v) = true := by simpa using hlt
      rw [hd]
      have hle : ¬ v ≤ m.peak := by omega
      go_enter Try.func59, Try.ntmps59
      go_wp2_with (first | (go_at_call 73; refine (bool_cas_ft _ true _ c2 z2).mono ?_; rintro e w' ⟨rfl, rfl⟩; simp only [Bool.not_true, if_true]))
      refine wp_loop_once ?_
      go_wp2_with (first | (go_at_call 74; refine (i64_load _ _ _ d1).mono ?_; rintro e w' ⟨rfl, rfl⟩) | (go_at_call 75; refine (i64_cas _ _ _ _ d1 y1).mono ?_; rintro e w' ⟨rfl, rfl⟩))
      go_ret
      exact ⟨rfl, ((Kept.refl _ _).drew.set _ _ (by simp)), h.drew.set 1 _⟩
    · rw [if_neg hlt]
      have hd : decide (m.peak < v) = false := by simpa using hlt
      rw [hd]
      have hle : v ≤ m.peak := by omega
      go_enter Try.func59, Try.ntmps59
      go_wp2_with (first | (go_at_call 73; refine (bool_cas_ft _ true _ c2 z2).mono ?_; rintro e w' ⟨rfl, rfl⟩; simp only [Bool.not_true, if_true]))
      refine wp_loop_once ?_
      go_wp2_with (first | (go_at_call 74; refine (i64_load _ _ _ d1).mono ?_; rintro e w' ⟨rfl, rfl⟩))
      go_ret
      exact ⟨rfl, (Kept.refl _ _).drew, h.drew⟩
theorem peak_call (b : Nat) (m : M) (w : World) (h : IsM w b m) :
    Calls Try.prog 64 #[.pointer (some ⟨b, 0, none⟩)] w fun e w' => e = .returned (.tuple #[.int .i64 (if m.any then m.peak else 0), .bool m.any]) ∧ w = w' := by
  have c1 := h.cell 1 (v := .int .i64 m.peak) rfl
  have c2 := h.cell 2 (v := .int .u32 (b32 m.any)) rfl
  have hnot : ∀ (x : Bool) (w : World), (Op.unary .not (.bool x)).run Try.prog w = .ok (.bool (!x)) w := fun _ _ => rfl
  cases ha : m.any <;> rw [ha] at c2 <;> clear ha <;>
  · go_enter Try.func64, Try.ntmps64
    go_wp2_with (first | (go_at_call 78; refine (bool_load _ _ _ c2).mono ?_; rintro e w' ⟨rfl, rfl⟩) | (go_at_call 74; refine (i64_load _ _ _ c1).mono ?_; rintro e w' ⟨rfl, rfl⟩))
    go_ret2
    exact ⟨rfl, rfl⟩
end Go.Proofs.Ytlafkeijikbenab.MeterC
