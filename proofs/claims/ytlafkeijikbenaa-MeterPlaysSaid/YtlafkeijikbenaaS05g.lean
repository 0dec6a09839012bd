/- The law MeterPlays: does the program's meter show what the document's does? -/
import Derived.Test.YtlafkeijikbenaaS05f
namespace Go.Proofs.Ytlafkeijikbenaa.Law05
open Go Go.RowKit Go.Proofs.Ytlafkeijikbenaa.Hp Go.Proofs.Ytlafkeijikbenaa.Atom Go.Proofs.Ytlafkeijikbenaa.AtomC Go.Proofs.Ytlafkeijikbenaa.MeterC
set_option linter.unusedVariables false
set_option linter.unusedSimpArgs false
theorem same {P : Program} {f : FuncId} {args : Array Value} {w : World} {v : Value} (h : Calls P f args w fun e w' => e = .returned v ∧ w = w') : Calls P f args w fun e w' => e = .returned v ∧ w' = w :=
  h.mono fun _ _ ⟨a, b⟩ => ⟨a, b.symm⟩
set_option maxRecDepth 100000 in
set_option maxHeartbeats 1600000 in
theorem shows_call (a b : Nat) (s : St) (w : World) (ha : IsA w a s) (hb : IsV w b s) (hs : s.ok) :
    Calls Try.prog 22 #[.pointer (some ⟨a, 0, none⟩), .pointer (some ⟨b, 0, none⟩)] w fun e w' => e = .returned (.bool true) ∧ Kept [] w w' := by
  obtain ⟨l, hN⟩ := ha
  have hp : (if (s.m l).any then (s.m l).peak else 0) = s.peak := by
    show (if s.any then s.peak else 0) = s.peak
    split
    · rfl
    · rename_i h; exact (hs.2.2.1 (by simpa using h)).symm
  have P : Calls Try.prog 18 #[.pointer (some ⟨a, 0, none⟩)] w fun e w' => e = .returned (.tuple #[.int .i64 (if (s.m l).any then (s.m l).peak else 0), .bool s.any]) ∧ w = w' := peak_call a _ w hN.1
  rw [hp] at P
  have P' := Lib.hid P
  have L' := Lib.hid (last_call a _ _ w hN)
  clear P hp
  go_enter Try.func22, Try.ntmps22
  go_wp2_with fail
  refine P'.out.mono ?_
  rintro e w' ⟨rfl, rfl⟩
  go_wp2_with fail
  refine L'.out.mono ?_
  rintro e w1 ⟨rfl, k1⟩
  simp only [R.val]
  clear P' L'
  have hM1 : IsM (w1.alloc (.cells (recOf s.note).cells.toArray 44)) a (s.m l) := (k1.has hN.1 (by simp)).alloc _
  have hV1 : IsV (w1.alloc (.cells (recOf s.note).cells.toArray 44)) b s := (k1.has hb (by simp)).alloc _
  have hR1 := Has.new w1 44 (recOf s.note).cells
  have hk : Kept [] w (w1.alloc (.cells (recOf s.note).cells.toArray 44)) := k1.alloc _
  have hsz : w1.heap.size < (w1.alloc (.cells (recOf s.note).cells.toArray 44)).heap.size := by simp
  have e0 : (recOf s.note).cells.toArray = #[.int .i64 (recOf s.note).at_, .int .i64 (recOf s.note).code, .int .u32 (recOf s.note).session, .int .u32 (recOf s.note).number] := rfl
  rw [e0] at hM1 hV1 hR1 hk hsz
  have hk1 := Lib.hid hk
  clear hk hN hb k1 e0
  go_wp2_with fail
  generalize w1.alloc (.cells #[.int .i64 (recOf s.note).at_, .int .i64 (recOf s.note).code, .int .u32 (recOf s.note).session, .int .u32 (recOf s.note).number] 44) = W at *
  generalize w1.heap.size = r at *
  have T1 : ∀ n, Calls Try.prog 16 #[.pointer (some ⟨a, 0, none⟩)] (W.drewN n) fun e w' => e = .returned (.int .u64 s.total) ∧ w' = W.drewN n := fun n => same (total_call a _ _ (hM1.drewN n))
  have T2 : ∀ n, Calls Try.prog 21 #[.pointer (some ⟨a, 0, none⟩)] (W.drewN n) fun e w' => e = .returned (.int .u32 s.flags) ∧ w' = W.drewN n := fun n => same (flags_call a _ _ (hM1.drewN n))
  have T3 : ∀ n, Calls Try.prog 29 #[.pointer (some ⟨a, 0, none⟩)] (W.drewN n) fun e w' => e = .returned (.bool s.on) ∧ w' = W.drewN n := fun n => same (on_call a _ _ (hM1.drewN n))
  replace T1 := Lib.hid T1
  replace T2 := Lib.hid T2
  replace T3 := Lib.hid T3
  have v0 := hV1.cell 0 (v := .int .u64 s.total) rfl
  have v1 := hV1.cell 1 (v := .int .i64 s.peak) rfl
  have v2 := hV1.cell 2 (v := .bool s.any) rfl
  have v3 := hV1.cell 3 (v := .int .u32 s.flags) rfl
  have v4 := hV1.cell 4 (v := .bool s.on) rfl
  have v5 := hV1.cell 5 (v := .int .i64 (recOf s.note).at_) rfl
  have v6 := hV1.cell 6 (v := .int .i64 (recOf s.note).code) rfl
  have v7 := hV1.cell 7 (v := .int .u32 (recOf s.note).session) rfl
  have v8 := hV1.cell 8 (v := .int .u32 (recOf s.note).number) rfl
  have v9 := hV1.cell 9 (v := .bool s.note.isSome) rfl
  have r0 := hR1.cell 0 (v := .int .i64 (recOf s.note).at_) rfl
  have r1 := hR1.cell 1 (v := .int .i64 (recOf s.note).code) rfl
  have r2 := hR1.cell 2 (v := .int .u32 (recOf s.note).session) rfl
  have r3 := hR1.cell 3 (v := .int .u32 (recOf s.note).number) rfl
  go_quiet ((first | (go_at_call 16; exact Calls.quiet_of_same (T1.out _)) | (go_at_call 21; exact Calls.quiet_of_same (T2.out _)) | (go_at_call 29; exact Calls.quiet_of_same (T3.out _))))
  go_wp2_with fail
  go_ret
  exact ⟨rfl, hk1.out.drewN _⟩
end Go.Proofs.Ytlafkeijikbenaa.Law05
