/- The law MeterPeaks: the walk. -/
import Derived.Test.YtlafkeijikbenaaS05b
namespace Go.Proofs.Ytlafkeijikbenaa.Law05
open Go Go.RowKit Go.Proofs.Ytlafkeijikbenaa.Hp Go.Proofs.Ytlafkeijikbenaa.Atom Go.Proofs.Ytlafkeijikbenaa.AtomC Go.Proofs.Ytlafkeijikbenaa.MeterC
set_option linter.unusedVariables false
def allLt (zs : List Int) (k : Nat) (x : Int) : Bool := decide (∀ j, j < k → zs.getD j 0 < x)
theorem allLt_zero (zs : List Int) (x : Int) : allLt zs 0 x = true := by simp [allLt]
theorem allLt_succ (zs : List Int) (k : Nat) (x : Int) : allLt zs (k + 1) x = (allLt zs k x && decide (zs.getD k 0 < x)) := by
  unfold allLt
  rw [Bool.eq_iff_iff]
  simp only [decide_eq_true_eq, Bool.and_eq_true]
  constructor
  · exact fun h => ⟨fun j hj => h j (by omega), h k (by omega)⟩
  · rintro ⟨h, h'⟩ j hj
    rcases Nat.lt_or_ge j k with hl | hl
    · exact h j hl
    · obtain rfl : j = k := by omega
      exact h'
def Pk (zs : List Int) (i : Nat) (m : M) : Prop :=
  (i = 0 ∧ m = M.new) ∨ (0 < i ∧ ∃ p, m = ⟨0, p, true, 0, false, none⟩ ∧ (∀ j, j < i → zs.getD j 0 ≤ p) ∧ ∃ j, j < i ∧ zs.getD j 0 = p)
theorem Pk.isRaised {zs : List Int} {i : Nat} {m : M} (h : Pk zs i m) (x : Int) : MeterC.raised m x = allLt zs i x := by
  rcases h with ⟨rfl, rfl⟩ | ⟨hi, p, rfl, h1, j, hj, h2⟩
  · simp [MeterC.raised, M.new, allLt_zero]
  · unfold MeterC.raised allLt
    rw [Bool.eq_iff_iff]
    simp only [Bool.not_true, Bool.false_or, decide_eq_true_eq]
    constructor
    · intro hp j hj; have := h1 j hj; omega
    · intro h; have := h j hj; omega
theorem Pk.step {zs : List Int} {i : Nat} {m : M} (h : Pk zs i m) : Pk zs (i + 1) (m.raise (zs.getD i 0)) ∧ ∃ p, m.raise (zs.getD i 0) = ⟨0, p, true, 0, false, none⟩ ∧ zs.getD i 0 ≤ p ∧ (allLt zs i (zs.getD i 0) = true → p = zs.getD i 0) := by
  have hr := h.isRaised (zs.getD i 0)
  generalize hx : zs.getD i 0 = x at *
  have key : ∃ p, m.raise x = ⟨0, p, true, 0, false, none⟩ ∧ x ≤ p ∧ (allLt zs i x = true → p = x) ∧ (∀ j, j < i + 1 → zs.getD j 0 ≤ p) ∧ ∃ j, j < i + 1 ∧ zs.getD j 0 = p := by
    unfold M.raise
    cases ha : allLt zs i x with
    | true =>
      have ha' := ha
      unfold allLt at ha'
      simp only [decide_eq_true_eq] at ha'
      rw [hr, ha, if_pos rfl]
      refine ⟨x, ?_, Int.le_refl _, fun _ => rfl, ?_, i, by omega, hx⟩
      · rcases h with ⟨rfl, rfl⟩ | ⟨hi, p, rfl, h1, h2⟩ <;> rfl
      · intro j hj
        rcases Nat.lt_or_ge j i with hl | hl
        · have := ha' j hl; omega
        · obtain rfl : j = i := by omega
          omega
    | false =>
      rw [hr, ha, if_neg (by simp)]
      rcases h with ⟨rfl, rfl⟩ | ⟨hi, p, rfl, h1, j, hj, h2⟩
      · rw [allLt_zero] at ha; cases ha
      · have hp : x ≤ p := by
          unfold allLt at ha
          simp only [decide_eq_false_iff_not] at ha
          apply Classical.byContradiction
          intro hn
          exact ha (fun j hj => by have := h1 j hj; omega)
        refine ⟨p, rfl, hp, fun h => by (cases h), ?_, j, by omega, h2⟩
        intro j' hj'
        rcases Nat.lt_or_ge j' i with hl | hl
        · exact h1 j' hl
        · obtain rfl : j' = i := by omega
          omega
  obtain ⟨p, e, h1, h2, h3, h4⟩ := key
  exact ⟨.inr ⟨by omega, p, e, h3, h4⟩, p, e, h1, h2⟩
def PeaksRel (W0 : World) (b len : Nat) (zs : List Int) (i : Value) (w : World) : Prop :=
  ∃ (k : Nat) (m : M), k ≤ len ∧ i = .int .i64 k ∧ Pk zs k m ∧ IsM w b m ∧ Kept [b] W0 w
def InnerRel (W0 : World) (b i : Nat) (m : M) (zs : List Int) (x : Int) (first k : Value) (w : World) : Prop :=
  ∃ j : Nat, j ≤ i ∧ k = .int .i64 j ∧ first = .bool (allLt zs j x) ∧ IsM w b m ∧ Kept [b] W0 w
set_option maxHeartbeats 800000 in
theorem MeterPeaks_walk (a : Option Addr) (len cap : Nat) (zs : List Int) (w : World) (hr : IsRow .i64 w a len cap zs) (_ : len * 8 ≤ 140737488351232) :
    Calls Try.prog 4 #[.slice a len cap] w fun e w' => e = .returned (.bool true) ∧ Below w.heap.size w w' := by
  obtain ⟨hm, hp⟩ := hr.parts
  clear hr
  unfold maxLen at hm
  have R : ∀ m v b w, IsM w b m → Calls Try.prog 17 #[.pointer (some ⟨b, 0, none⟩), .int .i64 v] w fun e w' => e = .returned (.bool (MeterC.raised m v)) ∧ Kept [b] w w' ∧ IsM w' b (m.raise v) := fun m v b w h => raise_call b m v w h
  have P : ∀ p b w, IsM w b ⟨0, p, true, 0, false, none⟩ → Calls Try.prog 18 #[.pointer (some ⟨b, 0, none⟩)] w fun e w' => e = .returned (.tuple #[.int .i64 p, .bool true]) ∧ w = w' := fun p b w h => peak_call b _ w h
  have R' := Lib.hid R
  have Q' := Lib.hid P
  have P' := Lib.hid hp
  clear R P hp
  have hn := hnot
  go_enter Try.func4, Try.ntmps4
  go_wp2_with fail
  refine (awake_call _).mono ?_
  rintro e w0 ⟨rfl, k0⟩
  go_wp2_with fail
  refine (new_call _).mono ?_
  rintro e w1 ⟨rfl, k1, h1⟩
  go_wp2_with fail
  go_loopw [4] (PeaksRel w1 w0.heap.size len zs) (fun i _ => len - (intOf i).toNat)
  case atStart => exact ⟨0, M.new, Nat.zero_le _, rfl, .inl ⟨rfl, rfl⟩, h1, Kept.refl _ _⟩
  case round =>
    obtain ⟨k, m, hk, rfl, hPk, hM, hK⟩ := hrel
    rename_i wr
    rcases Nat.lt_or_ge k len with hlt | hge
    · obtain ⟨b, off, rfl, hb, hc, hw⟩ := P'.out.resolve_left (by omega)
      have hcell : ∀ W, Kept [w0.heap.size] w1 W → ∀ i, i < len → W.cell? ⟨b, off + i, none⟩ = some (.int .i64 (zs.getD i 0)) := by
        intro W hKW i hi
        have s0 := k0.size
        have s1 := k1.size
        rw [hKW.cell (by simp; omega) (by simp; omega), k1.cell (by simp; omega) (by simp), k0.cell (by simp; omega) (by simp)]; exact hc i hi
      have C' := Lib.hid hcell
      have K' := Lib.hid hK
      have Pk' := Lib.hid hPk
      obtain ⟨wo, rfl⟩ : ∃ wo : World, wo = wr := ⟨_, rfl⟩
      clear hcell hK hPk hc hw
      go_wp2_with fail
      go_loopw [5, 6] (InnerRel w1 w0.heap.size k m zs (zs.getD k 0)) (fun _ j _ => k - (intOf j).toNat)
      case atStart => exact ⟨0, Nat.zero_le _, rfl, by rw [allLt_zero], hM, K'.out⟩
      case round =>
        obtain ⟨j, hj, rfl, rfl, hM, hK⟩ := hrel
        have cj := C'.out _ hK
        have ck := cj k hlt
        rcases Nat.lt_or_ge j k with hjk | hjk
        · have cj := cj j (by omega)
          have hs := allLt_succ zs j (zs.getD k 0)
          have H' := Lib.hid hs
          have K2 := Lib.hid hK
          clear hs hK
          cases hF : allLt zs j (zs.getD k 0) with
          | false =>
            have e : allLt zs (j + 1) (zs.getD k 0) = false := by rw [H'.out, hF]; rfl
            have E' := Lib.hid e
            clear e H' hF
            go_wp2_with fail
            go_quiet (fail)
            go_wp2_with fail
            go_roundw
            case rel => exact ⟨j + 1, by omega, by go_num, by rw [E'.out]; (try simp only [List.getD_eq_getElem?_getD]), hM, K2.out.drewN _⟩
            case measure => simp [intOf]; omega
          | true =>
            have e : allLt zs (j + 1) (zs.getD k 0) = decide (zs.getD j 0 < zs.getD k 0) := by rw [H'.out, hF]; rfl
            have E' := Lib.hid e
            clear e H' hF
            go_wp2_with fail
            go_quiet (fail)
            go_wp2_with fail
            go_roundw
            case rel => exact ⟨j + 1, by omega, by go_num, by rw [E'.out]; (try simp only [List.getD_eq_getElem?_getD]), hM, K2.out.drewN _⟩
            case measure => simp [intOf]; omega
        · obtain rfl : j = k := by omega
          obtain ⟨hp1, p, he, hp2, hp3⟩ := Pk'.out.step
          have hr := Pk'.out.isRaised (zs.getD j 0)
          have K2 := Lib.hid hK
          have C2 := Lib.hid cj
          clear hK cj
          have R2 : Calls Try.prog 17 #[.pointer (some ⟨w0.heap.size, 0, none⟩), .int .i64 (zs.getD j 0)] _ _ := R'.out m (zs.getD j 0) w0.heap.size _ hM
          rw [he, hr] at R2
          have P1 := Lib.hid hp1
          rw [he] at P1
          clear hp1 he hr
          cases hF : allLt zs j (zs.getD j 0) with
          | false =>
            rw [hF] at R2
            have R3 := Lib.hid R2
            clear R2 hF hp3
            go_wp2_with fail
            refine R3.out.mono ?_
            rintro e w2 ⟨rfl, k2, h2⟩
            go_wp2_with fail
            refine (Q'.out _ _ _ h2).mono ?_
            rintro e w3 ⟨rfl, rfl⟩
            have c2 := C'.out _ (K2.out.trans k2) j hlt
            go_wp2_with fail
            · go_ret
              exact ⟨rfl, ((k0.trans k1).fresh (K2.out.trans k2) (S' := []) (by intro i hi; simp at hi; have := k0.size; omega)).toBelow (by simp)⟩
            · go_roundw
              case rel => exact ⟨j + 1, _, by omega, by go_num, P1.out, h2, K2.out.trans k2⟩
              case measure => simp [intOf]; omega
          | true =>
            rw [hF] at R2
            have R3 := Lib.hid R2
            obtain rfl : p = zs.getD j 0 := hp3 hF
            clear R2 hF hp3
            go_wp2_with fail
            refine R3.out.mono ?_
            rintro e w2 ⟨rfl, k2, h2⟩
            go_wp2_with fail
            refine (Q'.out _ _ _ h2).mono ?_
            rintro e w3 ⟨rfl, rfl⟩
            have c2 := C'.out _ (K2.out.trans k2) j hlt
            go_wp2_with fail
            · go_ret
              exact ⟨rfl, ((k0.trans k1).fresh (K2.out.trans k2) (S' := []) (by intro i hi; simp at hi; have := k0.size; omega)).toBelow (by simp)⟩
            · go_roundw
              case rel => exact ⟨j + 1, _, by omega, by go_num, P1.out, h2, K2.out.trans k2⟩
              case measure => simp [intOf]; omega
    · go_wp2_with fail
      go_ret
      exact ⟨rfl, ((k0.trans k1).fresh hK (S' := []) (by intro i hi; simp at hi; have := k0.size; omega)).toBelow (by simp)⟩
end Go.Proofs.Ytlafkeijikbenaa.Law05
