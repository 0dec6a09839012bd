/- crc's table engine: its cells; New; build. -/
import Derived.Test.YtcnlomknmhgpbaaOnceD
import Derived.Test.YtcnlomknmhgpbaaBrS
import Derived.Lib.Hide
import Derived.Deep.RegionHeld3
namespace Go.Proofs.Ytcnlomknmhgpbaa.TabC
open Go Go.RowKit Go.Proofs.Ytcnlomknmhgpbaa.Hp Go.Proofs.Ytcnlomknmhgpbaa.Atom Go.Proofs.Ytcnlomknmhgpbaa.AtomC Go.Proofs.Ytcnlomknmhgpbaa.OnceC Go.Proofs.Ytcnlomknmhgpbaa.Gf
set_option linter.unusedVariables false
set_option linter.unusedSimpArgs false
def U32 (l : List Int) : List Value := l.map (Value.int .u32)
def tcells (done : Bool) (lock : Int) (rows : List Int) (built : Bool) : List Value := .int .u32 (b32 done) :: .int .i32 lock :: .int .u32 0 :: (U32 rows ++ [.bool built])
theorem zero_table : (tcells false 0 (List.replicate 256 0) false).toArray = Try.zeroCells80 := by kernel_rfl
set_option maxRecDepth 100000 in
theorem new_call (w : World) : Calls Try.prog 26 #[] w fun e w' => e = .returned (.pointer (some ⟨w.heap.size, 0, none⟩)) ∧ Kept [] w w' ∧ Has w' w.heap.size 80 (tcells false 0 (List.replicate 256 0) false) := by
  go_enter Try.func26, Try.ntmps26
  go_wp2
  go_ret
  refine ⟨rfl, (Kept.refl _ _).alloc _, ?_⟩
  rw [← zero_table]
  exact Has.new w _ _
/-- the table's first k rows are made -/
def trow (k : Nat) : List Int := (List.range 256).map fun i => if i < k then ((stp 0 i : Nat) : Int) else 0
theorem trow_length (k : Nat) : (trow k).length = 256 := by simp [trow]
theorem trow_zero : trow 0 = List.replicate 256 0 := by
  apply List.ext_getElem?
  intro i
  simp only [trow, List.getElem?_map, List.getElem?_replicate]
  by_cases h : i < 256 <;> simp [h]
theorem trow_set (k : Nat) (h : k < 256) : (trow k).set k ((stp 0 k : Nat) : Int) = trow (k + 1) := by
  apply List.ext_getElem?
  intro i
  simp only [trow, List.getElem?_set, List.getElem?_map, List.length_map, List.length_range]
  by_cases hi : i < 256
  · simp only [List.getElem?_range hi, Option.map_some]
    by_cases e : k = i
    · subst e; simp [h]
    · rw [if_neg e]
      by_cases c : i < k
      · rw [if_pos c, if_pos (by omega)]
      · rw [if_neg c, if_neg (by omega)]
  · rw [if_neg (by omega)]; simp [hi]
theorem U32_set (l : List Int) (i : Nat) (x : Int) : (U32 l).set i (.int .u32 x) = U32 (l.set i x) := by
  simp [U32, List.map_set]
theorem U32_length (l : List Int) : (U32 l).length = l.length := by simp [U32]
theorem tcells_set (d : Bool) (l : Int) (k : Nat) (b : Bool) (h : k < 256) : (tcells d l (trow k) b).set (3 + k) (.int .u32 ((stp 0 k : Nat) : Int)) = tcells d l (trow (k + 1)) b := by
  unfold tcells
  rw [show 3 + k = k + 1 + 1 + 1 by omega, List.set_cons_succ, List.set_cons_succ, List.set_cons_succ, List.set_append_left _ _ (by rw [U32_length, trow_length]; exact h), U32_set, trow_set k h]
theorem tcells_built (d : Bool) (l : Int) (r : List Int) (b c : Bool) (h : r.length = 256) : (tcells d l r b).set 259 (.bool c) = tcells d l r c := by
  unfold tcells
  rw [show (259 : Nat) = 256 + 1 + 1 + 1 by omega, List.set_cons_succ, List.set_cons_succ, List.set_cons_succ, List.set_append_right _ _ (by rw [U32_length, h]; omega), U32_length, h]
  rfl
theorem tcells_row (d : Bool) (l : Int) (r : List Int) (b : Bool) (k : Nat) (h : k < r.length) : (tcells d l r b)[3 + k]? = some (.int .u32 (r.getD k 0)) := by
  unfold tcells
  rw [show 3 + k = k + 1 + 1 + 1 by omega, List.getElem?_cons_succ, List.getElem?_cons_succ, List.getElem?_cons_succ, List.getElem?_append_left (by rw [U32_length]; exact h)]
  simp [U32, List.getD_eq_getElem?_getD, List.getElem?_eq_getElem h]
theorem tcells_last (d : Bool) (l : Int) (r : List Int) (b : Bool) (h : r.length = 256) : (tcells d l r b)[259]? = some (.bool b) := by
  unfold tcells
  rw [show (259 : Nat) = 256 + 1 + 1 + 1 by omega, List.getElem?_cons_succ, List.getElem?_cons_succ, List.getElem?_cons_succ, List.getElem?_append_right (by rw [U32_length, h]; omega), U32_length, h]
  rfl
theorem step_call (s c : Nat) (hs : s < 2 ^ 32) (hc : c < 256) (w : World) : Calls Try.prog 36 #[.int .u32 (s : Int), .int .u8 (c : Int)] w fun e w' => e = .returned (.int .u32 ((stp s c : Nat) : Int)) ∧ ∃ n, w' = w.drewN n := by
  obtain ⟨K, hK⟩ := Pure.step_ev (s := s) (c := (c : Int)) hs (by omega) (by omega)
  have := hK K (Nat.le_refl _)
  refine (PS.crc_step.calls K _ _ _ w this).mono ?_
  rintro e w' ⟨rfl, ⟨n, rfl⟩⟩
  exact ⟨rfl, n, rfl⟩
def TabRel (W : World) (b : Nat) (v : Value) (w : World) : Prop :=
  ∃ (k : Nat) (ws : World), ws = w ∧ k ≤ 256 ∧ v = .int .i64 (k : Nat) ∧ Kept [b] W w ∧ Has w b 80 (tcells false 1 (trow k) false)
set_option maxRecDepth 100000 in
set_option maxHeartbeats 3200000 in
theorem build1_call (b p : Nat) (w : World) (h : Has w b 80 (tcells false 1 (List.replicate 256 0) false)) (hp : Has w p 48 [.pointer (some ⟨b, 0, none⟩)]) (hbp : b ≠ p) :
    Calls Try.prog 53 #[.pointer (some ⟨p, 0, none⟩)] w fun e w' => e = .returned (.tuple #[]) ∧ Kept [b] w w' ∧ Has w' b 80 (tcells false 1 (trow 256) true) := by
  have H := Lib.hid h
  have HP := Lib.hid hp
  clear h hp
  go_enter Try.func53, Try.ntmps53
  go_wp2_with fail
  go_loopw [2] (TabRel w b) (fun i _ => 256 - (intOf i).toNat)
  case atStart => exact ⟨0, _, rfl, by omega, rfl, Kept.refl _ _, by rw [trow_zero]; exact H.out⟩
  case round =>
    obtain ⟨k, ws, rfl, hk, rfl, hK, hO⟩ := hrel
    have HO := Lib.hid hO
    have HK := Lib.hid hK
    have p0 := (hK.has HP.out (by simp; exact fun e => hbp e.symm)).cell 0 (v := .pointer (some ⟨b, 0, none⟩)) rfl
    clear hK hO
    rcases Nat.lt_or_ge k 256 with hkn | hkn
    · have ek : ((k : Int) % 256) = (k : Int) := by omega
      have q0 := HO.out.cell (3 + k) (tcells_row false 1 (trow k) false k (by rw [trow_length]; exact hkn))
      have z0 := HO.out.free (3 + k)
      obtain ⟨x, hx⟩ : ∃ x, (trow k).getD k 0 = x := ⟨_, rfl⟩
      rw [hx] at q0
      clear hx
      have ew : IntKind.u8.wrap (k : Int) = (k : Int) := by rw [IntKind.wrap_u8]; omega
      have S1 : Calls Try.prog 36 #[.int .u32 0, .int .u8 (IntKind.u8.wrap (k : Int))] ws.drew fun e w' => e = .returned (.int .u32 ((stp 0 k : Nat) : Int)) ∧ ∃ n, w' = ws.drew.drewN n := by
        rw [ew]; exact step_call 0 k (by omega) hkn ws.drew
      generalize hy : stp 0 k = y at S1
      have HY := Lib.hid hy
      have S0 := Lib.hid S1
      clear hy S1 ek ew
      have e2 : ∀ (W : World) x, (W.setCell ⟨b, 3 + k, none⟩ x).cell? ⟨p, 0, none⟩ = W.cell? ⟨p, 0, none⟩ := fun W x => World.cell?_setCell_other _ _ _ _ (fun h => hbp (congrArg Addr.block h))
      go_wp2_with fail
      go_region_held3 (fun w' => w'.cell? ⟨p, 0, none⟩ = some (.pointer (some ⟨b, 0, none⟩))) (first | assumption | exact (e2 _ _).trans (by assumption) | go_keep)
        (first
          | (refine S0.out.mono ?_; rintro e w2 ⟨rfl, n2, rfl⟩))
      go_wp2_with fail
      go_roundw
      case rel =>
        refine ⟨k + 1, _, rfl, by omega, by go_num, (HK.out.drewN _).set _ _ (by simp), ?_⟩
        have := (HO.out.drewN (1 + n2)).set (3 + k) (.int .u32 (y : Int))
        rw [← HY.out, tcells_set _ _ _ _ hkn, HY.out] at this
        exact this
      case measure => simp [intOf]; omega
    · obtain rfl : k = 256 := by omega
      have q0 := HO.out.cell 259 (tcells_last false 1 (trow 256) false (trow_length 256))
      have z0 := HO.out.free 259
      go_wp2_with fail
      go_end0
      refine ⟨rfl, HK.out.set _ _ (by simp), ?_⟩
      have := HO.out.set 259 (.bool true)
      rw [tcells_built _ _ _ _ _ (trow_length 256)] at this
      exact this
end Go.Proofs.Ytcnlomknmhgpbaa.TabC
