/- What a call made, as a list for parapethand.Apart. -/
import Derived.Test.YtcnlomknmhgpbabApE
import Derived.Test.YtcnlomknmhgpbabBr
namespace Go.Proofs.Ytcnlomknmhgpbab.Ap
open Go Go.RowKit Go.Proofs.Ytcnlomknmhgpbab.Hp Go.Proofs.Ytcnlomknmhgpbab.Sl Go.Proofs.Ytcnlomknmhgpbab.Br
theorem ok_of_made {w w' : World} {v : Value} {l : List Int} (h : Made w w' v l) (hl : l.length ≤ 1000000) : LItem.ok w' ⟨v, l, w.heap.size, w'.heap.size⟩ := ⟨h.1, hl, fun k hk => ⟨h.2 k hk, h.1.lt hk⟩⟩
theorem ok_of_spare {w : World} {g : Nat} {l : List Int} (h : Has w g 5 (U8 (whole l))) (hl : l.length ≤ 1000000) : LItem.ok w ⟨.slice (some ⟨g, 0, none⟩) l.length (l.length + 9), l, g, g + 1⟩ :=
  ⟨.inr ⟨g, own_whole h hl⟩, hl, fun k hk => by have e : g = k := Option.some.inj hk; subst e; exact ⟨Nat.le_refl _, Nat.lt_succ_self _⟩⟩
theorem LItem.ok.low {W : World} {items : List LItem} (h : ∀ p, p ∈ items → p.ok W) {B : Nat} (hB : ∀ p, p ∈ items → B ≤ p.lo) {x : Nat} (hx : x ∈ blocksOf items) : B ≤ x := by
  obtain ⟨p, hp, he⟩ := mem_blocksOf hx
  have := (h p hp).lies x he
  have := hB p hp
  omega
end Go.Proofs.Ytcnlomknmhgpbab.Ap
