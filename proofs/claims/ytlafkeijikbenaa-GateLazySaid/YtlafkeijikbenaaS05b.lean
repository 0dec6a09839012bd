/- The law MeterSums: the walk. -/
import Derived.Test.YtlafkeijikbenaaS05a
import Derived.Deep.LoopGhost
import Derived.OpenShut
namespace Go.Proofs.Ytlafkeijikbenaa.Law05
open Go Go.RowKit Go.Proofs.Ytlafkeijikbenaa.Hp Go.Proofs.Ytlafkeijikbenaa.Atom Go.Proofs.Ytlafkeijikbenaa.AtomC Go.Proofs.Ytlafkeijikbenaa.MeterC
set_option linter.unusedVariables false
set_option linter.unusedSimpArgs false
def IsRow (k : IntKind) (w : World) (a : Option Addr) (len cap : Nat) (zs : List Int) : Prop :=
  (a = none ∧ len = 0 ∧ cap = 0 ∧ zs = []) ∨
  ∃ x, a = some x ∧ len ≤ cap ∧ cap ≤ maxLen ∧ zs.length = cap ∧ (∀ i, i < zs.length → w.cell? (x.add i) = some (.int k (zs.getD i 0))) ∧ ∀ n ∈ zs, (Lit.int k n).wf = true
theorem IsRow.parts {k : IntKind} {w : World} {a : Option Addr} {len cap : Nat} {zs : List Int} (h : IsRow k w a len cap zs) :
    len ≤ maxLen ∧ (len = 0 ∨ ∃ b off, a = some ⟨b, off, none⟩ ∧ b < w.heap.size ∧ (∀ i, i < len → w.cell? ⟨b, off + i, none⟩ = some (.int k (zs.getD i 0))) ∧ ∀ i, i < len → (Lit.int k (zs.getD i 0)).wf = true) := by
  rcases h with ⟨rfl, rfl, rfl, rfl⟩ | ⟨x, rfl, h1, h2, h3, h4, h5⟩
  · exact ⟨by simp, .inl rfl⟩
  · refine ⟨by omega, ?_⟩
    by_cases h0 : len = 0
    · exact .inl h0
    · obtain ⟨b, off, rfl, hc⟩ := ints_at h4 (by omega)
      refine .inr ⟨b, off, rfl, ?_, fun i hi => hc i (by omega), fun i hi => ?_⟩
      · exact World.block_lt_of_cell? _ _ (hc 0 (by omega))
      · apply h5
        rw [List.getD_eq_getElem?_getD, List.getElem?_eq_getElem (by omega)]
        exact List.getElem_mem _

theorem wf_u64 {n : Int} (h : (Lit.int .u64 n).wf = true) : 0 ≤ n ∧ n ≤ 18446744073709551615 := by
  simpa [Lit.wf, IntKind.min, IntKind.max, IntKind.signed, IntKind.bits] using h
def mt (x : Int) : M := ⟨x, 0, false, 0, false, none⟩
theorem wrap64u (n : Int) : IntKind.u64.wrap n = n % 18446744073709551616 := by simp [IntKind.wrap, IntKind.bits, IntKind.signed]
theorem addv_full (x : Int) (h0 : 0 ≤ x) (h1 : x ≤ 18446744073709551615) : addv 18446744073709551615 x = 18446744073709551615 := by
  unfold addv; rw [wrap64u]
  by_cases h : x = 0
  · subst h; rfl
  · rw [if_pos (by omega)]
theorem addv_over (s x : Int) (h0 : 0 ≤ x) (h1 : x ≤ 18446744073709551615) (s1 : s ≤ 18446744073709551615) (h : 18446744073709551615 - s < x) : addv s x = 18446744073709551615 := by
  unfold addv; rw [wrap64u, if_pos (by omega)]
theorem addv_sum (s x : Int) (h0 : 0 ≤ x) (s0 : 0 ≤ s) (h : x ≤ 18446744073709551615 - s) : addv s x = s + x := by
  unfold addv; rw [wrap64u]
  have e : (s + x) % 18446744073709551616 = s + x := Int.emod_eq_of_lt (by omega) (by omega)
  rw [e, if_neg (by omega)]
/-- The relation of the loop: so far the count is s, and it is full or not. -/
def SumsRel (W0 : World) (b : Nat) (len : Nat) (sum full i : Value) (w : World) : Prop :=
  ∃ (k : Nat) (s : Int) (f : Bool), k ≤ len ∧ i = .int .i64 k ∧ sum = .int .u64 s ∧ full = .bool f ∧ 0 ≤ s ∧ s ≤ 18446744073709551615 ∧ (f = true → s = 18446744073709551615) ∧ IsM w b (mt s) ∧ Kept [b] W0 w
theorem MeterSums_walk (a : Option Addr) (len cap : Nat) (zs : List Int) (w : World) (hr : IsRow .u64 w a len cap zs) (_ : len * 8 ≤ 140737488351232) :
    Calls Try.prog 3 #[.slice a len cap] w fun e w' => e = .returned (.bool true) ∧ Below w.heap.size w w' := by
  obtain ⟨hm, hp⟩ := hr.parts
  clear hr
  unfold maxLen at hm
  have T : ∀ x b w, IsM w b (mt x) → Calls Try.prog 16 #[.pointer (some ⟨b, 0, none⟩)] w fun e w' => e = .returned (.int .u64 x) ∧ w = w' := fun x b w h => total_call b _ w h
  have A : ∀ x v y b w, IsM w b (mt x) → addv x v = y → Calls Try.prog 15 #[.pointer (some ⟨b, 0, none⟩), .int .u64 v] w fun e w' => e = .returned (.tuple #[.int .u64 y, .int .i64 0]) ∧ Kept [b] w w' ∧ IsM w' b (mt y) := fun x v y b w h e => by subst e; exact add_call b _ v w h
  have T' := Lib.hid T
  have A' := Lib.hid A
  have P' := Lib.hid hp
  clear T A hp
  have hn := hnot
  go_enter Try.func3, Try.ntmps3
  go_wp2_with fail
  refine (awake_call _).mono ?_
  rintro e w0 ⟨rfl, k0⟩
  go_wp2_with fail
  refine (new_call _).mono ?_
  rintro e w1 ⟨rfl, k1, h1⟩
  go_wp2_with fail
  go_loopw [4, 5, 6] (SumsRel w1 w0.heap.size len) (fun _ _ i _ => len - (intOf i).toNat)
  case atStart => exact ⟨0, 0, false, Nat.zero_le _, rfl, rfl, rfl, by omega, by omega, by simp, h1, Kept.refl _ _⟩
  case round =>
    obtain ⟨k, s, f, hk, rfl, rfl, rfl, hs0, hs1, hfs, hM, hK⟩ := hrel
    rename_i wr
    rcases Nat.lt_or_ge k len with hlt | hge
    · obtain ⟨b, off, rfl, hb, hc, hw⟩ := P'.out.resolve_left (by omega)
      have hx := wf_u64 (hw k hlt)
      have hcell : wr.cell? ⟨b, off + k, none⟩ = some (.int .u64 (zs.getD k 0)) := by
        have s0 := k0.size
        have s1 := k1.size
        rw [hK.cell (by simp; omega) (by simp; omega), k1.cell (by simp; omega) (by simp), k0.cell (by simp; omega) (by simp)]; exact hc k hlt
      clear hc hw
      generalize zs.getD k 0 = x at hx hcell
      obtain ⟨hx0, hx1⟩ := hx
      have F' := Lib.hid hfs
      have K' := Lib.hid hK
      clear hfs hK
      cases f with
      | true =>
        obtain rfl : s = 18446744073709551615 := F'.out rfl
        have hadd := addv_full x hx0 hx1
        go_wp2_with (first | (go_at_call 15; refine (A'.out _ x _ _ _ hM hadd).mono ?_; rintro e w2 ⟨rfl, k2, h2⟩) | (go_at_call 16; refine (T'.out _ _ _ h2).mono ?_; rintro e w3 ⟨rfl, rfl⟩))
        go_roundw
        case rel => exact ⟨k + 1, _, true, by omega, by go_num, rfl, rfl, by omega, by omega, fun _ => rfl, h2, K'.out.trans k2⟩
        case measure => simp [intOf]; omega
      | false =>
        by_cases ho : 18446744073709551615 - s < x
        · have hadd := addv_over s x hx0 hx1 hs1 ho
          have hd : decide (18446744073709551615 - s < x) = true := by simpa using ho
          go_wp2_with (first | (go_at_call 15; refine (A'.out _ x _ _ _ hM hadd).mono ?_; rintro e w2 ⟨rfl, k2, h2⟩) | (go_at_call 16; refine (T'.out _ _ _ h2).mono ?_; rintro e w3 ⟨rfl, rfl⟩))
          go_roundw
          case rel => exact ⟨k + 1, _, true, by omega, by go_num, rfl, rfl, by omega, by omega, fun _ => rfl, h2, K'.out.trans k2⟩
          case measure => simp [intOf]; omega
        · have hadd := addv_sum s x hx0 hs0 (by omega)
          have hd : decide (18446744073709551615 - s < x) = false := by simpa using ho
          have hsum : IntKind.u64.wrap (s + x) = s + x := by rw [wrap64u]; exact Int.emod_eq_of_lt (by omega) (by omega)
          go_wp2_with (first | (go_at_call 15; refine (A'.out _ x _ _ _ hM hadd).mono ?_; rintro e w2 ⟨rfl, k2, h2⟩) | (go_at_call 16; refine (T'.out _ _ _ h2).mono ?_; rintro e w3 ⟨rfl, rfl⟩))
          go_roundw
          case rel => exact ⟨k + 1, _, false, by omega, by go_num, rfl, rfl, by omega, by omega, fun h => by (cases h), h2, K'.out.trans k2⟩
          case measure => simp [intOf]; omega
    · go_wp2_with fail
      go_ret
      exact ⟨rfl, ((k0.trans k1).fresh hK (S' := []) (by intro i hi; simp at hi; have := k0.size; omega)).toBelow (by simp)⟩
end Go.Proofs.Ytlafkeijikbenaa.Law05
