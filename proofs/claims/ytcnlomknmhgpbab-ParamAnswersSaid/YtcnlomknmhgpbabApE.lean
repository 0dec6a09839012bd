/- parapethand.Apart over lists whose blocks lie in stretches of memory apart. -/
import Derived.Test.YtcnlomknmhgpbabApD
namespace Go.Proofs.Ytcnlomknmhgpbab.Ap
open Go Go.RowKit Go.Proofs.Ytcnlomknmhgpbab.Hp Go.Proofs.Ytcnlomknmhgpbab.Sl
set_option linter.unusedVariables false
set_option linter.unusedSimpArgs false
/-- A row of bytes whose block, if it has one, is at least lo and less than hi. -/
structure LItem where
  v : Value
  l : List Int
  lo : Nat
  hi : Nat
structure LItem.ok (W : World) (p : LItem) : Prop where
  row : Row W p.v p.l
  short : p.l.length ≤ 1000000
  lies : ∀ k, p.v.ownBlock = some k → p.lo ≤ k ∧ k < p.hi
def blocksOf (items : List LItem) : List Nat := items.flatMap (fun p => p.v.ownBlock.toList)
theorem mem_blocksOf {items : List LItem} {x : Nat} (h : x ∈ blocksOf items) : ∃ p, p ∈ items ∧ p.v.ownBlock = some x := by
  obtain ⟨p, hp, hx⟩ := List.mem_flatMap.1 h
  exact ⟨p, hp, by simpa using hx⟩
theorem lists_of {W : World} {a : Nat} (items : List LItem) (few : items.length ≤ 100) (hh : Has W a 25 (items.map (·.v))) (hrow : ∀ p, p ∈ items → p.ok W) (hpw : items.Pairwise (fun p q => p.hi ≤ q.lo ∨ q.hi ≤ p.lo)) :
    Lists W a (items.map (·.v)) (fun i => (items[i]?.map (·.l.length)).getD 0) (blocksOf items) := by
  have hat : ∀ i (hi : i < items.length), at_ (items.map (·.v)) i = (items[i]).v := by
    intro i hi
    simp [at_, List.getD_eq_getElem?_getD, List.getElem?_map, List.getElem?_eq_getElem hi]
  refine ⟨by simpa using few, hh, fun i => ?_, fun i hi => ?_, fun i j k hi hj hij h1 h2 => ?_, fun i k hi h1 => ?_⟩
  · rcases Nat.lt_or_ge i items.length with h | h
    · rw [List.getElem?_eq_getElem h]; exact (hrow _ (List.getElem_mem h)).short
    · rw [List.getElem?_eq_none h]; simp
  · rw [List.length_map] at hi
    rw [hat i hi]
    exact ⟨(items[i]).l, by simp [List.getElem?_eq_getElem hi], (hrow _ (List.getElem_mem hi)).row⟩
  · rw [List.length_map] at hi hj
    rw [hat i hi] at h1
    rw [hat j hj] at h2
    have a1 := (hrow _ (List.getElem_mem hi)).lies k h1
    have a2 := (hrow _ (List.getElem_mem hj)).lies k h2
    rcases Nat.lt_or_gt_of_ne hij with h | h
    · have := List.pairwise_iff_getElem.1 hpw i j hi hj h; omega
    · have := List.pairwise_iff_getElem.1 hpw j i hj hi h; omega
  · rw [List.length_map] at hi
    rw [hat i hi] at h1
    exact List.mem_flatMap.2 ⟨_, List.getElem_mem hi, by rw [h1]; simp⟩
theorem apart_items (W : World) (a : Nat) (items : List LItem) (few : items.length ≤ 100) (hh : Has W a 25 (items.map (·.v))) (hrow : ∀ p, p ∈ items → p.ok W) (hpw : items.Pairwise (fun p q => p.hi ≤ q.lo ∨ q.hi ≤ p.lo)) :
    Calls Try.prog 26 #[.slice (some ⟨a, 0, none⟩) items.length items.length] W fun e w' => e = .returned (.bool true) ∧ Kept (blocksOf items) W w' := by
  have := apart_call W a _ _ _ (lists_of items few hh hrow hpw)
  rw [List.length_map] at this
  exact this
theorem LItem.ok.kept {W w : World} {p : LItem} (h : p.ok W) (k : Kept [] W w) : p.ok w := ⟨h.row.kept k (by simp), h.short, h.lies⟩
end Go.Proofs.Ytcnlomknmhgpbab.Ap
