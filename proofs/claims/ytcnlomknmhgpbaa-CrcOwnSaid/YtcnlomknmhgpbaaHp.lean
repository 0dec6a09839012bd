/- Blocks of memory known whole, and what a call leaves as it was. -/
import Derived.Below
import Derived.OneCell
import Derived.Laws.NewBlocks
import Derived.Deep.Draws
namespace Go.Proofs.Ytcnlomknmhgpbaa.Hp
open Go Go.RowKit
set_option linter.unusedVariables false
set_option linter.unusedSimpArgs false

/-- Block b of the world holds these cells; none is frozen. -/
def Has (w : World) (b : Nat) (T : TypeId) (cs : List Value) : Prop := w.heap[b]? = some (.cells cs.toArray T (0, 0))
variable {w w' w'' : World} {b k : Nat} {T : TypeId} {cs : List Value}
theorem Has.lt (h : Has w b T cs) : b < w.heap.size := lt_of_block h
theorem Has.cell (h : Has w b T cs) (i : Nat) {v : Value} (hi : cs[i]? = some v) : w.cell? ⟨b, i, none⟩ = some v := by
  unfold Has at h; simp [World.cell?, h, hi]
theorem Has.free (h : Has w b T cs) (i : Nat) : w.frozen? ⟨b, i, none⟩ = false := by
  unfold Has at h; simp [World.frozen?, h]
theorem Has.set (h : Has w b T cs) (i : Nat) (v : Value) : Has (w.setCell ⟨b, i, none⟩ v) b T (cs.set i v) := by
  have hlt := h.lt
  have h' : w.heap[b] = .cells cs.toArray T (0, 0) := by unfold Has at h; simpa [Array.getElem?_eq_getElem hlt] using h
  show (w.heap.modify b _)[b]? = _
  rw [Array.getElem?_eq_getElem (by simpa using hlt), Array.getElem_modify_self, h']
  simp
theorem Has.set_ne (h : Has w b T cs) (a : Addr) (v : Value) (hne : b ≠ a.block) : Has (w.setCell a v) b T cs := by
  unfold Has; rw [Below.heap_setCell _ _ _ _ hne]; exact h
theorem Has.alloc (h : Has w b T cs) (o : Obj) : Has (w.alloc o) b T cs := by
  unfold Has; rw [Below.heap_alloc _ _ _ h.lt]; exact h
theorem Has.drew (h : Has w b T cs) : Has w.drew b T cs := h
theorem Has.drewN (h : Has w b T cs) (n : Nat) : Has (w.drewN n) b T cs := h
theorem Has.new (w : World) (T : TypeId) (cs : List Value) : Has (w.alloc (.cells cs.toArray T)) w.heap.size T cs := by
  show (w.heap.push _)[w.heap.size]? = _
  simp

/-- Of the blocks that were there nothing has turned but those in S. -/
structure Kept (S : List Nat) (w w' : World) : Prop where
  os : w'.os = w.os
  tape : w'.tape = w.tape
  output : w'.output = w.output
  size : w.heap.size ≤ w'.heap.size
  block : ∀ k, k < w.heap.size → k ∉ S → w'.heap[k]? = w.heap[k]?
theorem Kept.refl (S : List Nat) (w : World) : Kept S w w := ⟨rfl, rfl, rfl, Nat.le_refl _, fun _ _ _ => rfl⟩
theorem Kept.trans {S : List Nat} (h : Kept S w w') (k : Kept S w' w'') : Kept S w w'' :=
  ⟨k.os.trans h.os, k.tape.trans h.tape, k.output.trans h.output, Nat.le_trans h.size k.size, fun i hi hn => (k.block i (Nat.lt_of_lt_of_le hi h.size) hn).trans (h.block i hi hn)⟩
theorem Kept.mono {S S' : List Nat} (h : Kept S w w') (hs : ∀ k, k ∈ S → k ∈ S') : Kept S' w w' :=
  ⟨h.os, h.tape, h.output, h.size, fun i hi hn => h.block i hi (fun e => hn (hs i e))⟩
/-- Blocks that were not there yet need not be named. -/
theorem Kept.shed {S S' : List Nat} (h : Kept S w w') (hs : ∀ k, k ∈ S → k < w.heap.size → k ∈ S') : Kept S' w w' :=
  ⟨h.os, h.tape, h.output, h.size, fun i hi hn => h.block i hi (fun e => hn (hs i e hi))⟩
theorem Kept.drew {S : List Nat} (h : Kept S w w') : Kept S w w'.drew := ⟨h.os, h.tape, h.output, h.size, h.block⟩
theorem Kept.drewN {S : List Nat} (h : Kept S w w') (n : Nat) : Kept S w (w'.drewN n) := ⟨h.os, h.tape, h.output, h.size, h.block⟩
theorem Kept.alloc {S : List Nat} (h : Kept S w w') (o : Obj) : Kept S w (w'.alloc o) :=
  ⟨h.os, h.tape, h.output, by simp; have := h.size; omega, fun i hi hn => by rw [Below.heap_alloc _ _ _ (Nat.lt_of_lt_of_le hi h.size)]; exact h.block i hi hn⟩
theorem Kept.set {S : List Nat} (h : Kept S w w') (a : Addr) (v : Value) (ha : a.block < w.heap.size → a.block ∈ S) : Kept S w (w'.setCell a v) :=
  ⟨h.os, h.tape, h.output, by simpa using h.size, fun i hi hn => by
    rw [Below.heap_setCell _ _ _ _ (fun e => by subst e; exact hn (ha hi))]; exact h.block i hi hn⟩
theorem Kept.has {S : List Nat} (h : Kept S w w') (hb : Has w b T cs) (hn : b ∉ S) : Has w' b T cs := by
  unfold Has; rw [h.block b hb.lt hn]; exact hb
theorem Kept.cell {S : List Nat} (h : Kept S w w') {p : Addr} (hp : p.block < w.heap.size) (hn : p.block ∉ S) : w'.cell? p = w.cell? p := World.cell?_of_block (h.block _ hp hn)
theorem Kept.below {S : List Nat} (h : Kept S w w') {B : Nat} (hB : B ≤ w.heap.size) (hs : ∀ k, k ∈ S → B ≤ k) : Below B w w' :=
  ⟨h.os, h.tape, h.output, h.size, fun i hi => h.block i (by omega) (fun e => by have := hs i e; omega)⟩
theorem below_kept {W : World} {S : List Nat} (h : Below W.heap.size W w) (k : Kept S w w') (hs : ∀ i, i ∈ S → W.heap.size ≤ i) : Below W.heap.size W w' :=
  h.trans (k.below h.size hs)
/-- What was done to blocks of its own, behind what was kept. -/
theorem Kept.fresh {S S' : List Nat} (h : Kept S' w w') (k : Kept S w' w'') (hs : ∀ i, i ∈ S → i < w.heap.size → i ∈ S') : Kept S' w w'' :=
  ⟨k.os.trans h.os, k.tape.trans h.tape, k.output.trans h.output, Nat.le_trans h.size k.size, fun i hi hn => (k.block i (Nat.lt_of_lt_of_le hi h.size) (fun e => hn (hs i e hi))).trans (h.block i hi hn)⟩
theorem Kept.toBelow {S : List Nat} (h : Kept S w w') (hs : ∀ i, i ∈ S → w.heap.size ≤ i) : Below w.heap.size w w' := h.below (Nat.le_refl _) hs
end Go.Proofs.Ytcnlomknmhgpbaa.Hp
