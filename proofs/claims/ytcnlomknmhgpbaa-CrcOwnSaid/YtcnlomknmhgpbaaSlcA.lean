/- crc's engine of four tables: its cells; New; build. -/
import Derived.Test.YtcnlomknmhgpbaaTabS
namespace Go.Proofs.Ytcnlomknmhgpbaa.SlcA
open Go Go.RowKit Go.Proofs.Ytcnlomknmhgpbaa.Hp Go.Proofs.Ytcnlomknmhgpbaa.Atom Go.Proofs.Ytcnlomknmhgpbaa.AtomC Go.Proofs.Ytcnlomknmhgpbaa.OnceC Go.Proofs.Ytcnlomknmhgpbaa.Gf Go.Proofs.Ytcnlomknmhgpbaa.TabC
set_option linter.unusedVariables false
set_option linter.unusedSimpArgs false
theorem zero_sliced : (tcells false 0 (List.replicate 1024 0) false).toArray = Try.zeroCells83 := by kernel_rfl
set_option maxRecDepth 100000 in
theorem new_call (w : World) : Calls Try.prog 27 #[] w fun e w' => e = .returned (.pointer (some ⟨w.heap.size, 0, none⟩)) ∧ Kept [] w w' ∧ Has w' w.heap.size 83 (tcells false 0 (List.replicate 1024 0) false) := by
  go_enter Try.func27, Try.ntmps27
  go_wp2
  go_ret
  refine ⟨rfl, (Kept.refl _ _).alloc _, ?_⟩
  rw [← zero_sliced]
  exact Has.new w _ _
/-- table k's row i -/
def tk : Nat → Nat → Nat
  | 0, i => stp 0 i
  | k + 1, i => stp (tk k i) 0
theorem tk_lt : ∀ k i, tk k i < 2 ^ 32
  | 0, i => stp_lt _ _
  | k + 1, i => stp_lt _ _
/-- all four tables, the first n entries made -/
def srow (n : Nat) : List Int := (List.range 1024).map fun j => if 4 * (j % 256) + j / 256 < n then ((tk (j / 256) (j % 256) : Nat) : Int) else 0
theorem srow_length (k : Nat) : (srow k).length = 1024 := by simp [srow]
theorem srow_zero : srow 0 = List.replicate 1024 0 := by
  apply List.ext_getElem?
  intro i
  simp only [srow, List.getElem?_map, List.getElem?_replicate]
  by_cases h : i < 1024 <;> simp [h]
theorem srow_set (k i : Nat) (hk : k < 4) (hi : i < 256) : (srow (4 * i + k)).set (256 * k + i) ((tk k i : Nat) : Int) = srow (4 * i + (k + 1)) := by
  apply List.ext_getElem?
  intro j
  simp only [srow, List.getElem?_set, List.getElem?_map, List.length_map, List.length_range]
  by_cases hj : j < 1024
  · simp only [List.getElem?_range hj, Option.map_some]
    by_cases e : 256 * k + i = j
    · subst e
      have e1 : (256 * k + i) % 256 = i := by omega
      have e2 : (256 * k + i) / 256 = k := by omega
      rw [e1, e2, if_pos rfl, if_pos hj, if_pos (by omega)]
    · rw [if_neg e]
      have : ¬ (4 * (j % 256) + j / 256 = 4 * i + k) := by omega
      by_cases c : 4 * (j % 256) + j / 256 < 4 * i + k
      · rw [if_pos c, if_pos (by omega)]
      · rw [if_neg c, if_neg (by omega)]
  · rw [if_neg (by omega)]; simp [hj]
theorem scells_set (d : Bool) (l : Int) (k i : Nat) (b : Bool) (hk : k < 4) (hi : i < 256) : (tcells d l (srow (4 * i + k)) b).set (3 + (256 * k + i)) (.int .u32 ((tk k i : Nat) : Int)) = tcells d l (srow (4 * i + (k + 1))) b := by
  unfold tcells
  rw [show 3 + (256 * k + i) = (256 * k + i) + 1 + 1 + 1 by omega, List.set_cons_succ, List.set_cons_succ, List.set_cons_succ, List.set_append_left _ _ (by rw [U32_length, srow_length]; omega), U32_set, srow_set k i hk hi]
theorem scells_built (d : Bool) (l : Int) (r : List Int) (b c : Bool) (h : r.length = 1024) : (tcells d l r b).set 1027 (.bool c) = tcells d l r c := by
  unfold tcells
  rw [show (1027 : Nat) = 1024 + 1 + 1 + 1 by omega, List.set_cons_succ, List.set_cons_succ, List.set_cons_succ, List.set_append_right _ _ (by rw [U32_length, h]; omega), U32_length, h]
  rfl
theorem scells_last (d : Bool) (l : Int) (r : List Int) (b : Bool) (h : r.length = 1024) : (tcells d l r b)[1027]? = some (.bool b) := by
  unfold tcells
  rw [show (1027 : Nat) = 1024 + 1 + 1 + 1 by omega, List.getElem?_cons_succ, List.getElem?_cons_succ, List.getElem?_cons_succ, List.getElem?_append_right (by rw [U32_length, h]; omega), U32_length, h]
  rfl
theorem srow_get (k i : Nat) (hk : k < 4) (hi : i < 256) : (srow 1024).getD (256 * k + i) 0 = ((tk k i : Nat) : Int) := by
  have e1 : (256 * k + i) % 256 = i := by omega
  have e2 : (256 * k + i) / 256 = k := by omega
  have h : 256 * k + i < 1024 := by omega
  simp only [srow, List.getD_eq_getElem?_getD, List.getElem?_map, List.getElem?_range h, Option.map_some, Option.getD_some]
  rw [e1, e2, if_pos (by omega)]
def OutRel (W : World) (b : Nat) (v : Value) (w : World) : Prop :=
  ∃ (i : Nat) (ws : World), ws = w ∧ i ≤ 256 ∧ v = .int .i64 (i : Nat) ∧ Kept [b] W w ∧ Has w b 83 (tcells false 1 (srow (4 * i)) false)
def InRel (W : World) (b i : Nat) (v j : Value) (w : World) : Prop :=
  ∃ (k : Nat) (ws : World), ws = w ∧ k ≤ 4 ∧ v = .int .u32 ((tk k i : Nat) : Int) ∧ j = .int .i64 (k : Nat) ∧ Kept [b] W w ∧ Has w b 83 (tcells false 1 (srow (4 * i + k)) false)
set_option maxRecDepth 100000 in
set_option maxHeartbeats 3200000 in
theorem build1_call (b p : Nat) (w : World) (h : Has w b 83 (tcells false 1 (List.replicate 1024 0) false)) (hp : Has w p 50 [.pointer (some ⟨b, 0, none⟩)]) (hbp : b ≠ p) :
    Calls Try.prog 54 #[.pointer (some ⟨p, 0, none⟩)] w fun e w' => e = .returned (.tuple #[]) ∧ Kept [b] w w' ∧ Has w' b 83 (tcells false 1 (srow 1024) true) := by
  have H := Lib.hid h
  have HP := Lib.hid hp
  clear h hp
  go_enter Try.func54, Try.ntmps54
  go_wp2_with fail
  go_loopw [4] (OutRel w b) (fun i _ => 256 - (intOf i).toNat)
  case atStart => exact ⟨0, _, rfl, by omega, rfl, Kept.refl _ _, by rw [show 4 * 0 = 0 from rfl, srow_zero]; exact H.out⟩
  case round =>
    obtain ⟨i, ws, rfl, hi, rfl, hK, hO⟩ := hrel
    have HO := Lib.hid hO
    have HK := Lib.hid hK
    have p0 := (hK.has HP.out (by simp; exact fun e => hbp e.symm)).cell 0 (v := .pointer (some ⟨b, 0, none⟩)) rfl
    clear hK hO
    rcases Nat.lt_or_ge i 256 with hin | hin
    · have ew : IntKind.u8.wrap (i : Int) = (i : Int) := by rw [IntKind.wrap_u8]; omega
      have em : (i : Int) % 256 = (i : Int) := by omega
      have S0 := Lib.hid (step_call 0 i (by omega) hin)
      go_wp2_with (go_at_call 36; refine (S0.out _).mono ?_; rintro e w2 ⟨rfl, n2, rfl⟩)
      clear S0 p0 em ew
      go_loopw [2, 10] (InRel w b i) (fun _ j _ => 4 - (intOf j).toNat)
      case atStart => exact ⟨0, _, rfl, by omega, rfl, rfl, by first | exact HK.out | exact HK.out.drew | exact HK.out.drewN _, by first | exact HO.out | exact HO.out.drew | exact HO.out.drewN _⟩
      case round =>
        obtain ⟨k, wt, rfl, hk, rfl, rfl, hK, hO⟩ := hrel
        have IO := Lib.hid hO
        have IK := Lib.hid hK
        have p1 := (hK.has HP.out (by simp; exact fun e => hbp e.symm)).cell 0 (v := .pointer (some ⟨b, 0, none⟩)) rfl
        clear hK hO
        rcases Nat.lt_or_ge k 4 with hkn | hkn
        · have q0 := IO.out.cell (3 + (256 * k + i)) (tcells_row false 1 (srow (4 * i + k)) false (256 * k + i) (by rw [srow_length]; omega))
          have z0 := IO.out.free (3 + (256 * k + i))
          obtain ⟨x, hx⟩ : ∃ x, (srow (4 * i + k)).getD (256 * k + i) 0 = x := ⟨_, rfl⟩
          rw [hx] at q0
          clear hx
          rw [show 3 + (256 * k + i) = 3 + k * 256 + i by omega] at q0 z0
          have S1 := Lib.hid (step_call (tk k i) 0 (tk_lt _ _) (by omega))
          go_wp2_with (go_at_call 36; refine (S1.out _).mono ?_; rintro e w2 ⟨rfl, n2, rfl⟩)
          refine ⟨⟨k + 1, _, rfl, by omega, rfl, by go_num, (IK.out.set _ _ (by simp)).drewN _, ?_⟩, by simp [intOf]; omega⟩
          have := (IO.out.set (3 + (256 * k + i)) (.int .u32 ((tk k i : Nat) : Int))).drewN n2
          rw [scells_set _ _ _ _ _ hkn hin, show 3 + (256 * k + i) = 3 + k * 256 + i by omega] at this
          exact this
        · obtain rfl : k = 4 := by omega
          go_wp2_with fail
          exact ⟨⟨i + 1, _, rfl, by omega, by go_num, IK.out, IO.out⟩, by simp [intOf]; omega⟩
    · obtain rfl : i = 256 := by omega
      have q0 := HO.out.cell 1027 (scells_last false 1 (srow (4 * 256)) false (srow_length _))
      have z0 := HO.out.free 1027
      go_wp2_with fail
      go_end0
      refine ⟨rfl, HK.out.set _ _ (by simp), ?_⟩
      have := HO.out.set 1027 (.bool true)
      rw [scells_built _ _ _ _ _ (srow_length _)] at this
      exact this
end Go.Proofs.Ytcnlomknmhgpbaa.SlcA
