/- Contracts of Note and Last. -/
import Derived.Test.YtlafkeijikbenaaMeterN
namespace Go.Proofs.Ytlafkeijikbenaa.MeterC
open Go Go.RowKit Go.Proofs.Ytlafkeijikbenaa.Hp Go.Proofs.Ytlafkeijikbenaa.Atom Go.Proofs.Ytlafkeijikbenaa.AtomC
set_option linter.unusedVariables false
set_option linter.unusedSimpArgs false
theorem Has.ne {w : World} {b b' : Nat} {T T' : TypeId} {cs cs' : List Value} (h : Has w b T cs) (h' : Has w b' T' cs') (hne : T ≠ T') : b ≠ b' := by
  rintro rfl
  unfold Has at h h'
  rw [h] at h'
  simp at h'
  exact hne h'.2
/-- What the last record reads as. -/
def Noted (w : World) (p : Option Addr) : Option R → Prop
  | none => p = none
  | some r => ∃ b', p = some ⟨b', 0, none⟩ ∧ Has w b' 44 r.cells
theorem Noted.isRec {w : World} {p : Option Addr} {n : Option R} (h : Noted w p n) : IsRec w p := by
  cases n with
  | none => exact .inl h
  | some r => obtain ⟨b', e, h⟩ := h; exact .inr ⟨b', _, _, _, _, e, h⟩
theorem Noted.kept {w w' : World} {p : Option Addr} {n : Option R} {S : List Nat} (h : Noted w p n) (k : Kept S w w') (hs : ∀ i, i ∈ S → i < w.heap.size → ∃ T cs, T ≠ 44 ∧ Has w i T cs) : Noted w' p n := by
  cases n with
  | none => exact h
  | some r =>
    obtain ⟨b', e, h⟩ := h
    refine ⟨b', e, k.has h (fun hi => ?_)⟩
    obtain ⟨T, cs, hT, hc⟩ := hs b' hi h.lt
    exact Has.ne hc h hT rfl
theorem Noted.alloc {w : World} {p : Option Addr} {n : Option R} (h : Noted w p n) (o : Obj) : Noted (w.alloc o) p n :=
  h.kept ((Kept.refl [] w).alloc o) (by simp)
/-- A meter with its last record. -/
def IsN (w : World) (b : Nat) (m : M) (n : Option R) : Prop := IsM w b m ∧ Noted w m.last n
theorem IsN.kept {w w' : World} {b : Nat} {m : M} {n : Option R} {S : List Nat} (h : IsN w b m n) (k : Kept S w w') (hb : b ∉ S) (hs : ∀ i, i ∈ S → i < w.heap.size → ∃ T cs, T ≠ 44 ∧ Has w i T cs) : IsN w' b m n :=
  ⟨k.has h.1 hb, h.2.kept k hs⟩
/-- A call that changes the meter but not its record. -/
theorem IsN.turn {w w' : World} {b : Nat} {m m' : M} {n : Option R} (h : IsN w b m n) (k : Kept [b] w w') (h' : IsM w' b m') (e : m'.last = m.last) : IsN w' b m' n :=
  ⟨h', e ▸ h.2.kept k (fun i hi hl => by simp at hi; subst hi; exact ⟨_, _, by decide, h.1⟩)⟩
def recOf (n : Option R) : R := n.getD R.zero
theorem last_call (b : Nat) (m : M) (n : Option R) (w : World) (h : IsN w b m n) :
    Calls Try.prog 25 #[.pointer (some ⟨b, 0, none⟩)] w fun e w' => e = .returned (.tuple #[(recOf n).val, .bool n.isSome]) ∧ Kept [] w w' := by
  obtain ⟨hm, hn⟩ := h
  have hb := hm.lt
  cases n with
  | none =>
    have hn' : m.last = none := hn
    go_enter Try.func25, Try.ntmps25
    go_wp2_with fail
    refine (ptr_load _ m.last _ ((hm.alloc _).cell 5 rfl) (hn.alloc _).isRec).mono ?_
    rintro e w' ⟨rfl, rfl⟩
    rw [hn']
    go_wp2_with fail
    refine bodyPost_ret (v := .tuple #[R.zero.val, .bool false]) (by simp [results, Try.results25, go_sem, R.zero, R.val]) rfl ⟨rfl, ?_⟩
    exact (Kept.refl _ _).alloc _
  | some r =>
    obtain ⟨b', e, h'⟩ := hn
    have c0 := h'.cell 0 (v := .int .i64 r.at_) rfl
    have c1 := h'.cell 1 (v := .int .i64 r.code) rfl
    have c2 := h'.cell 2 (v := .int .u32 r.session) rfl
    have c3 := h'.cell 3 (v := .int .u32 r.number) rfl
    have hb' := h'.lt
    go_enter Try.func25, Try.ntmps25
    go_wp2_with fail
    refine (ptr_load _ m.last _ ((hm.alloc _).cell 5 rfl) (Noted.isRec (n := some r) ⟨b', e, h'.alloc _⟩)).mono ?_
    rintro e' w' ⟨rfl, rfl⟩
    rw [e]
    clear e h'
    go_wp2_with fail
    refine bodyPost_ret (v := .tuple #[r.val, .bool true]) ?_ rfl ⟨rfl, ?_⟩
    · simp [results, Try.results25, go_sem, R.val]
    · exact (Kept.refl _ _).alloc _
theorem note_call (b : Nat) (m : M) (n : Option R) (r : R) (w : World) (h : IsN w b m n) :
    Calls Try.prog 26 #[.pointer (some ⟨b, 0, none⟩), r.val] w fun e w' => e = .returned (.tuple #[(recOf n).val, .bool n.isSome]) ∧ Kept [b] w w' ∧ ∃ m', IsN w' b m' (some r) ∧ m'.total = m.total ∧ m'.peak = m.peak ∧ m'.any = m.any ∧ m'.flags = m.flags ∧ m'.on = m.on := by
  obtain ⟨hm, hn⟩ := h
  have hb := hm.lt
  unfold R.val
  go_enter Try.func26, Try.ntmps26
  go_wp2_with fail
  have hA : Has (w.alloc (.cells r.cells.toArray 44)) w.heap.size 44 r.cells := Has.new w _ r.cells
  refine (ptr_swap b 5 m.last (some ⟨w.heap.size, 0, none⟩) _ (((hm.alloc _).alloc _).cell 5 rfl) (((hm.alloc _).alloc _).free 5) ?_ ?_).mono ?_
  · exact (((hn.alloc _).alloc _).kept ((Kept.refl [b] _).set _ _ (by simp)) (fun i hi hl => by simp at hi; subst hi; exact ⟨_, _, by decide, (hm.alloc _).alloc _⟩)).isRec
  · exact .inr ⟨w.heap.size, _, _, _, _, rfl, hA.alloc _⟩
  rintro e w' ⟨rfl, rfl⟩
  have hK : Kept [b] w (((w.setCell ⟨b, 5, none⟩ (.pointer (some ⟨w.heap.size, 0, none⟩))).alloc (.cells r.cells.toArray 44))) := (((Kept.refl [b] _).set _ _ (by simp)).alloc _)
  have hI : ∀ o, IsN ((((w.setCell ⟨b, 5, none⟩ (.pointer (some ⟨w.heap.size, 0, none⟩))).alloc (.cells r.cells.toArray 44))).alloc o) b { m with last := some ⟨w.heap.size, 0, none⟩ } (some r) := fun o => by
    refine ⟨((hm.set 5 _).alloc _).alloc _, w.heap.size, rfl, Has.alloc ?_ _⟩
    have := Has.new (w.setCell ⟨b, 5, none⟩ (.pointer (some ⟨w.heap.size, 0, none⟩))) 44 r.cells
    simpa using this
  have K' := Lib.hid hK
  have I' := Lib.hid hI
  clear hK hI hA
  cases n with
  | none =>
    have hn' : m.last = none := hn
    rw [hn']
    clear hn hn'
    go_wp2_with fail
    refine bodyPost_ret (v := .tuple #[R.zero.val, .bool false]) ?_ rfl ⟨rfl, ?_, ?_⟩
    · simp [results, Try.results26, go_sem, R.val, R.zero]
    · exact K'.out.alloc _
    · exact ⟨_, I'.out _, rfl, rfl, rfl, rfl, rfl⟩
  | some q =>
    obtain ⟨b', e, h'⟩ := hn
    have hbb : ∀ i v, (w.setCell ⟨b, 5, none⟩ v).cell? ⟨b', i, none⟩ = w.cell? ⟨b', i, none⟩ := fun i v => World.cell?_setCell_other _ _ _ _ (fun h => by
      have h2 := Has.ne hm h' (by decide)
      exact h2 (congrArg Addr.block h))
    have c0 := h'.cell 0 (v := .int .i64 q.at_) rfl
    have c1 := h'.cell 1 (v := .int .i64 q.code) rfl
    have c2 := h'.cell 2 (v := .int .u32 q.session) rfl
    have c3 := h'.cell 3 (v := .int .u32 q.number) rfl
    have hb' := h'.lt
    rw [e]
    clear e h'
    go_wp2_with fail
    refine bodyPost_ret (v := .tuple #[q.val, .bool true]) ?_ rfl ⟨rfl, ?_, ?_⟩
    · simp [results, Try.results26, go_sem, R.val]
    · exact K'.out.alloc _
    · exact ⟨_, I'.out _, rfl, rfl, rfl, rfl, rfl⟩
end Go.Proofs.Ytlafkeijikbenaa.MeterC
