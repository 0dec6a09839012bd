/- parapethand.Kept. -/
import Derived.Test.YtcnlomknmhgpbabApC
import Derived.Deep.QuietTactic
namespace Go.Proofs.Ytcnlomknmhgpbab.Ap
open Go Go.RowKit Go.Proofs.Ytcnlomknmhgpbab.Hp Go.Proofs.Ytcnlomknmhgpbab.Sl
set_option linter.unusedVariables false
set_option linter.unusedSimpArgs false
def KpRel (w0 : World) (n : Nat) (x : Value) (w : World) : Prop :=
  ∃ (j q : Nat), j ≤ 9 ∧ x = .int .i64 ((n + j : Nat) : Int) ∧ w = w0.drewN q
set_option maxRecDepth 100000 in
set_option maxHeartbeats 1600000 in
theorem kept_call (g : Nat) (s : Value) (l : List Int) (w : World) (hB : Bytes w s l) (hG : Has w g 5 (U8 (whole l))) (hl : l.length ≤ 1000000) :
    Calls Try.prog 25 #[.slice (some ⟨g, 0, none⟩) (l.length + 9) (l.length + 9), s] w fun e w' => e = .returned (.bool true) ∧ Kept [] w w' := by
  obtain ⟨p, c, hs⟩ : ∃ p c, s = .slice p l.length c := by
    rcases hB with ⟨rfl, rfl⟩ | ⟨x, cap, rfl, _⟩
    · exact ⟨_, _, rfl⟩
    · exact ⟨_, _, rfl⟩
  subst hs
  have s1 : ∀ q, (convert 25 9 (.slice (some ⟨g, 0, none⟩) l.length (l.length + 9))).run Try.prog (w.drewN q) = .ok (.string (strOfNums l)) (w.drewN q) := fun q => ((own_whole hG hl).kept ((Kept.refl [] w).drewN q) (by simp)).bytes.str
  have s2 : ∀ q, (convert 25 9 (.slice p l.length c)).run Try.prog (w.drewN q) = .ok (.string (strOfNums l)) (w.drewN q) := fun q => (hB.kept ((Kept.refl [] w).drewN q) (by simp)).str
  have ne : ((strOfNums l).toList != (strOfNums l).toList) = false := by simp
  have nn : ((l.length : Int) + 9 != (l.length : Int) + 9) = false := by simp
  have c1 : l.length ≤ l.length + 9 := by omega
  have c2 : ¬ ((l.length : Int) < 0) := by omega
  have c3 : ¬ ((l.length : Int) + 9 < (l.length : Int)) := by omega
  have c4 : ¬ (((l.length + 9 : Nat) : Int) < (l.length : Int)) := by omega
  have c5 : (l.length : Int) ≤ (l.length : Int) + 9 := by omega
  have c6 : (0 : Int) ≤ (l.length : Int) := by omega
  have wr : IntKind.i64.wrap ((l.length : Int) + 9) = (l.length : Int) + 9 := by rw [IntKind.wrap_i64]; omega
  have nn2 : (((l.length + 9 : Nat) : Int) != (l.length : Int) + 9) = false := by simp
  have HG := Lib.hid hG
  clear hG hB
  go_enter Try.func25, Try.ntmps25
  go_wp2_with fail
  go_quiet (fail)
  go_wp2_with fail
  go_loopw [5] (KpRel w l.length) (fun i _ => l.length + 9 - (intOf i).toNat)
  case atStart => exact ⟨0, _, by omega, rfl, rfl⟩
  case round =>
    clear s1 s2 ne nn nn2
    obtain ⟨j, q, hj, rfl, rfl⟩ := hrel
    rcases Nat.lt_or_ge j 9 with hj9 | hj9
    · have q1 : (w.drewN q).cell? ⟨g, l.length + j, none⟩ = some (.int .u8 (tl ((l.length + j : Nat) : Int))) := (HG.out.drewN q).cell (l.length + j) (whole_get l j hj9)
      have et : tl ((l.length + j : Nat) : Int) = (201 + ((l.length : Int) + (j : Int))) % 256 := by simp [tl]
      rw [et] at q1
      have ne : ((201 + ((l.length : Int) + (j : Int))) % 256 != (201 + ((l.length : Int) + (j : Int))) % 256) = false := by simp
      clear et
      go_wp2_with fail
      go_roundw
      case rel => exact ⟨j + 1, _, by omega, by go_num, rfl⟩
      case measure => simp [intOf]; omega
    · obtain rfl : j = 9 := by omega
      go_wp2_with fail
      go_ret
      exact ⟨rfl, (Kept.refl [] w).drewN q⟩
end Go.Proofs.Ytcnlomknmhgpbab.Ap
