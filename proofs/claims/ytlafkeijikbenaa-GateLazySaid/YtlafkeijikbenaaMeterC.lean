/- Contracts of meter's calls, in the run of one goroutine. -/
import Derived.Test.YtlafkeijikbenaaAtomD
namespace Go.Proofs.Ytlafkeijikbenaa.MeterC
open Go Go.RowKit Go.Proofs.Ytlafkeijikbenaa.Hp Go.Proofs.Ytlafkeijikbenaa.Atom Go.Proofs.Ytlafkeijikbenaa.AtomC
set_option linter.unusedVariables false
set_option linter.unusedSimpArgs false

/-- What a meter holds. -/
structure M where
  total : Int
  peak : Int
  any : Bool
  flags : Int
  on : Bool
  last : Option Addr
def M.cells (m : M) : List Value := [.int .u64 m.total, .int .i64 m.peak, .int .u32 (b32 m.any), .int .u32 m.flags, .int .u32 (b32 m.on), .pointer m.last]
def IsM (w : World) (b : Nat) (m : M) : Prop := Has w b 93 m.cells
def M.new : M := ⟨0, 0, false, 0, false, none⟩

theorem new_call (w : World) : Calls Try.prog 14 #[] w fun e w' => e = .returned (.pointer (some ⟨w.heap.size, 0, none⟩)) ∧ Kept [] w w' ∧ IsM w' w.heap.size M.new := by
  go_enter Try.func14, Try.ntmps14
  go_wp2
  go_ret
  exact ⟨rfl, (Kept.refl _ _).alloc _, Has.new w _ _⟩

def addv (t n : Int) : Int := if IntKind.u64.wrap (t + n) < t then 18446744073709551615 else IntKind.u64.wrap (t + n)
def M.add (m : M) (n : Int) : M := { m with total := addv m.total n }
theorem add_call (b : Nat) (m : M) (n : Int) (w : World) (h : IsM w b m) :
    Calls Try.prog 15 #[.pointer (some ⟨b, 0, none⟩), .int .u64 n] w fun e w' => e = .returned (.tuple #[.int .u64 (addv m.total n), .int .i64 0]) ∧ Kept [b] w w' ∧ IsM w' b (m.add n) := by
  have c0 := h.cell 0 (v := .int .u64 m.total) rfl
  have z0 := h.free 0
  go_enter Try.func15, Try.ntmps15
  go_wp2_with fail
  refine wp_loop_once ?_
  go_wp2_with (first | (go_at_call 48; refine (u64_load _ _ _ c0).mono ?_; rintro e w' ⟨rfl, rfl⟩) | (go_at_call 49; refine (u64_cas _ _ _ _ c0 z0).mono ?_; rintro e w' ⟨rfl, rfl⟩))
  · have e : addv m.total n = 18446744073709551615 := if_pos (by assumption)
    go_ret2
    exact ⟨by rw [e]; rfl, (Kept.refl _ _).set _ _ (by simp), by unfold M.add; rw [e]; exact h.set 0 _⟩
  · have e : addv m.total n = IntKind.u64.wrap (m.total + n) := if_neg (by omega)
    go_ret2
    exact ⟨by rw [e]; rfl, (Kept.refl _ _).set _ _ (by simp), by unfold M.add; rw [e]; exact h.set 0 _⟩
theorem total_call (b : Nat) (m : M) (w : World) (h : IsM w b m) :
    Calls Try.prog 16 #[.pointer (some ⟨b, 0, none⟩)] w fun e w' => e = .returned (.int .u64 m.total) ∧ w = w' := by
  have c0 := h.cell 0 (v := .int .u64 m.total) rfl
  go_enter Try.func16, Try.ntmps16
  go_wp2_with (first | (go_at_call 48; refine (u64_load _ _ _ c0).mono ?_; rintro e w' ⟨rfl, rfl⟩))
  go_ret
  exact ⟨rfl, rfl⟩
/-- does a raising count? -/
def raised (m : M) (v : Int) : Bool := !m.any || decide (m.peak < v)
def M.raise (m : M) (v : Int) : M := if raised m v then { m with any := true, peak := v } else m
theorem raise_call (b : Nat) (m : M) (v : Int) (w : World) (h : IsM w b m) :
    Calls Try.prog 17 #[.pointer (some ⟨b, 0, none⟩), .int .i64 v] w fun e w' => e = .returned (.bool (raised m v)) ∧ Kept [b] w w' ∧ IsM w' b (m.raise v) := by
  have c1 := h.cell 1 (v := .int .i64 m.peak) rfl
  have c2 := h.cell 2 (v := .int .u32 (b32 m.any)) rfl
  have z1 := h.free 1
  have z2 := h.free 2
  cases ha : m.any with
  | false =>
    rw [ha] at c2
    have hr : raised m v = true := by simp [raised, ha]
    rw [hr, show m.raise v = { m with any := true, peak := v } from by simp [M.raise, hr]]
    clear ha hr
    have h1 := h.drew.set 2 (.int .u32 1)
    have d1 := h1.cell 1 (v := .int .i64 m.peak) rfl
    have y1 := h1.free 1
    go_enter Try.func17, Try.ntmps17
    go_wp2_with (first | (go_at_call 50; refine (bool_cas_ft _ false _ c2 z2).mono ?_; rintro e w' ⟨rfl, rfl⟩; simp only [Bool.not_false, Bool.false_eq_true, if_false]) | (go_at_call 51; refine (i64_store _ _ _ _ d1 y1).mono ?_; rintro e w' ⟨rfl, rfl⟩))
    go_ret
    exact ⟨rfl, (((Kept.refl _ _).drew.set _ _ (by simp)).set _ _ (by simp)), h1.set 1 _⟩
  | true =>
    rw [ha] at c2
    have hr : raised m v = decide (m.peak < v) := by simp [raised, ha]
    have he : m.raise v = if m.peak < v then { m with peak := v } else m := by simp only [M.raise, hr, decide_eq_true_eq]; split; · rw [← ha]
                                                                               · rfl
    rw [hr, he]
    clear ha hr he
    have d1 := h.drew.cell 1 (v := .int .i64 m.peak) rfl
    have y1 := h.drew.free 1
    by_cases hlt : m.peak < v
    · rw [if_pos hlt]
      have hd : decide (m.peak < v) = true := by simpa using hlt
      rw [hd]
      have hle : ¬ v ≤ m.peak := by omega
      go_enter Try.func17, Try.ntmps17
      go_wp2_with (first | (go_at_call 50; refine (bool_cas_ft _ true _ c2 z2).mono ?_; rintro e w' ⟨rfl, rfl⟩; simp only [Bool.not_true, if_true]))
      refine wp_loop_once ?_
      go_wp2_with (first | (go_at_call 52; refine (i64_load _ _ _ d1).mono ?_; rintro e w' ⟨rfl, rfl⟩) | (go_at_call 53; refine (i64_cas _ _ _ _ d1 y1).mono ?_; rintro e w' ⟨rfl, rfl⟩))
      go_ret
      exact ⟨rfl, ((Kept.refl _ _).drew.set _ _ (by simp)), h.drew.set 1 _⟩
    · rw [if_neg hlt]
      have hd : decide (m.peak < v) = false := by simpa using hlt
      rw [hd]
      have hle : v ≤ m.peak := by omega
      go_enter Try.func17, Try.ntmps17
      go_wp2_with (first | (go_at_call 50; refine (bool_cas_ft _ true _ c2 z2).mono ?_; rintro e w' ⟨rfl, rfl⟩; simp only [Bool.not_true, if_true]))
      refine wp_loop_once ?_
      go_wp2_with (first | (go_at_call 52; refine (i64_load _ _ _ d1).mono ?_; rintro e w' ⟨rfl, rfl⟩))
      go_ret
      exact ⟨rfl, (Kept.refl _ _).drew, h.drew⟩
theorem peak_call (b : Nat) (m : M) (w : World) (h : IsM w b m) :
    Calls Try.prog 18 #[.pointer (some ⟨b, 0, none⟩)] w fun e w' => e = .returned (.tuple #[.int .i64 (if m.any then m.peak else 0), .bool m.any]) ∧ w = w' := by
  have c1 := h.cell 1 (v := .int .i64 m.peak) rfl
  have c2 := h.cell 2 (v := .int .u32 (b32 m.any)) rfl
  have hnot : ∀ (x : Bool) (w : World), (Op.unary .not (.bool x)).run Try.prog w = .ok (.bool (!x)) w := fun _ _ => rfl
  cases ha : m.any <;> rw [ha] at c2 <;> clear ha <;>
  · go_enter Try.func18, Try.ntmps18
    go_wp2_with (first | (go_at_call 54; refine (bool_load _ _ _ c2).mono ?_; rintro e w' ⟨rfl, rfl⟩) | (go_at_call 52; refine (i64_load _ _ _ c1).mono ?_; rintro e w' ⟨rfl, rfl⟩))
    go_ret2
    exact ⟨rfl, rfl⟩
theorem set_call (b : Nat) (m : M) (v : Int) (w : World) (h : IsM w b m) :
    Calls Try.prog 19 #[.pointer (some ⟨b, 0, none⟩), .int .u32 v] w fun e w' => e = .returned (.int .u32 m.flags) ∧ Kept [b] w w' ∧ IsM w' b { m with flags := bits .or .u32 m.flags v } := by
  have c3 := h.cell 3 (v := .int .u32 m.flags) rfl
  have z3 := h.free 3
  go_enter Try.func19, Try.ntmps19
  go_wp2_with (first | (go_at_call 55; refine (au32_or _ _ _ _ c3 z3).mono ?_; rintro e w' ⟨rfl, rfl⟩))
  go_ret
  exact ⟨rfl, ((Kept.refl _ _).set _ _ (by simp)), h.set 3 _⟩
theorem clear_call (b : Nat) (m : M) (v : Int) (w : World) (h : IsM w b m) :
    Calls Try.prog 20 #[.pointer (some ⟨b, 0, none⟩), .int .u32 v] w fun e w' => e = .returned (.int .u32 m.flags) ∧ Kept [b] w w' ∧ IsM w' b { m with flags := bits .and .u32 m.flags (bits .xor .u32 4294967295 v) } := by
  have c3 := h.cell 3 (v := .int .u32 m.flags) rfl
  have z3 := h.free 3
  have hs : IntKind.u32.signed = false := rfl
  have hmx : IntKind.u32.max = 4294967295 := rfl
  go_enter Try.func20, Try.ntmps20
  go_wp2_with (first | (go_at_call 56; refine (au32_and _ _ _ _ c3 z3).mono ?_; rintro e w' ⟨rfl, rfl⟩))
  go_ret
  exact ⟨rfl, ((Kept.refl _ _).set _ _ (by simp)), h.set 3 _⟩
theorem flags_call (b : Nat) (m : M) (w : World) (h : IsM w b m) :
    Calls Try.prog 21 #[.pointer (some ⟨b, 0, none⟩)] w fun e w' => e = .returned (.int .u32 m.flags) ∧ w = w' := by
  have c3 := h.cell 3 (v := .int .u32 m.flags) rfl
  go_enter Try.func21, Try.ntmps21
  go_wp2_with (first | (go_at_call 57; refine (u32_load _ _ _ c3).mono ?_; rintro e w' ⟨rfl, rfl⟩))
  go_ret
  exact ⟨rfl, rfl⟩
theorem swap_call (b : Nat) (m : M) (v : Int) (w : World) (h : IsM w b m) :
    Calls Try.prog 24 #[.pointer (some ⟨b, 0, none⟩), .int .u64 v] w fun e w' => e = .returned (.tuple #[.int .u64 m.total, .int .i64 0]) ∧ Kept [b] w w' ∧ IsM w' b { m with total := v } := by
  have c0 := h.cell 0 (v := .int .u64 m.total) rfl
  have z0 := h.free 0
  go_enter Try.func24, Try.ntmps24
  go_wp2_with (first | (go_at_call 60; refine (u64_swap _ _ _ _ c0 z0).mono ?_; rintro e w' ⟨rfl, rfl⟩))
  go_ret2
  exact ⟨rfl, ((Kept.refl _ _).set _ _ (by simp)), h.set 0 _⟩
theorem move_call (b : Nat) (m : M) (o v : Int) (w : World) (h : IsM w b m) :
    Calls Try.prog 27 #[.pointer (some ⟨b, 0, none⟩), .int .u64 o, .int .u64 v] w fun e w' => e = .returned (.bool (decide (m.total = o))) ∧ Kept [b] w w' ∧ IsM w' b (if m.total = o then { m with total := v } else m) := by
  have c0 := h.cell 0 (v := .int .u64 m.total) rfl
  have z0 := h.free 0
  by_cases ho : m.total = o
  · rw [if_pos ho, decide_eq_true ho]; subst ho
    go_enter Try.func27, Try.ntmps27
    go_wp2_with (first | (go_at_call 49; refine (u64_cas _ _ _ _ c0 z0).mono ?_; rintro e w' ⟨rfl, rfl⟩))
    go_ret
    exact ⟨rfl, ((Kept.refl _ _).set _ _ (by simp)), h.set 0 _⟩
  · rw [if_neg ho, decide_eq_false ho]
    go_enter Try.func27, Try.ntmps27
    go_wp2_with (first | (go_at_call 49; refine (u64_cas_miss _ _ _ _ _ c0 z0 ho).mono ?_; rintro e w' ⟨rfl, rfl⟩))
    go_ret
    exact ⟨rfl, Kept.refl _ _, h⟩
theorem turn_call (b : Nat) (m : M) (v : Bool) (w : World) (h : IsM w b m) :
    Calls Try.prog 28 #[.pointer (some ⟨b, 0, none⟩), .bool v] w fun e w' => e = .returned (.bool m.on) ∧ Kept [b] w w' ∧ IsM w' b { m with on := v } := by
  have c4 := h.cell 4 (v := .int .u32 (b32 m.on)) rfl
  have z4 := h.free 4
  go_enter Try.func28, Try.ntmps28
  go_wp2_with (first | (go_at_call 63; refine (bool_swap _ _ _ _ c4 z4).mono ?_; rintro e w' ⟨rfl, rfl⟩))
  go_ret
  exact ⟨rfl, ((Kept.refl _ _).drew.set _ _ (by simp)), h.drew.set 4 _⟩
theorem on_call (b : Nat) (m : M) (w : World) (h : IsM w b m) :
    Calls Try.prog 29 #[.pointer (some ⟨b, 0, none⟩)] w fun e w' => e = .returned (.bool m.on) ∧ w = w' := by
  have c4 := h.cell 4 (v := .int .u32 (b32 m.on)) rfl
  go_enter Try.func29, Try.ntmps29
  go_wp2_with (first | (go_at_call 54; refine (bool_load _ _ _ c4).mono ?_; rintro e w' ⟨rfl, rfl⟩))
  go_ret
  exact ⟨rfl, rfl⟩
end Go.Proofs.Ytlafkeijikbenaa.MeterC
