/- What an argument's reading says of its cells, whatever its type's depth: numbers, bools, texts, slices, structs. -/
import Derived.ChangeArms
import Derived.SizedLaws
import Derived.ProofKit
import Derived.OpenShut
import Derived.Test.YtcnlomknmhgpbaaHp
namespace Go.Proofs.Ytcnlomknmhgpbaa.Fit
open Go Go.RowKit Go.Proofs.Ytcnlomknmhgpbaa.Hp
set_option linter.unusedVariables false
set_option linter.unusedSimpArgs false
/-- The cells of a value of type t, so deep. -/
def Fits (P : Program) (w : World) : Nat → TypeId → List Value → Prop
  | 0, _, _ => False
  | n + 1, t, cs => match P.underlying t with
    | some .bool => ∃ b, cs = [.bool b]
    | some (.int k) => ∃ x, cs = [.int k x] ∧ (Lit.int k x).wf = true
    | some .string => ∃ s : ByteArray, cs = [.string s] ∧ s.size ≤ reachBytes
    | some (.slice e) => ∃ a len cap, cs = [.slice a len cap] ∧ len * P.bytesOf e ≤ reachBytes ∧ len ≤ cap ∧ cap ≤ maxLen ∧
        ((a = none ∧ len = 0 ∧ cap = 0) ∨ ∃ x, a = some x ∧ ∀ i, i < len → ∃ cs', w.cells? 0 (x.add (i * P.cellsOf e)) (P.cellsOf e) = some cs' ∧ Fits P w n e cs')
    | some (.struct fs) => cs.length = P.cellsOf t ∧ ∀ (i : Nat) (f : Field), fs[i]? = some f → Fits P w n f.type ((cs.drop f.offset).take (P.cellsOf f.type))
    | _ => True
section
variable {H : Type} {enc : TypeId × Value → H} {P : Program} {w : World} {spare : Nat → Bool} {held : Bool}
theorem weightsAll_mem {e : TypeId} : ∀ {ds : List (DataW H)} {d : DataW H} {n : Nat}, d ∈ ds → n ∈ d.weights P e → n ∈ DataW.weightsAll P e ds
  | d :: r, _, n, h, hn => by
    rw [DataW.weightsAll]
    rcases List.mem_cons.1 h with rfl | h
    · exact List.mem_append.2 (.inl hn)
    · exact List.mem_append.2 (.inr (weightsAll_mem h hn))
theorem fits_of_trod : ∀ (fuel : Nat) (t : TypeId) (cs : List Value) (x : DataW H × List MemPlace),
    DataW.trod enc P w 0 spare held fuel t cs = some x → (∀ n, n ∈ x.1.weights P t → n ≤ reachBytes) → Fits P w fuel t cs
  | 0, t, cs, x, h, hw => by simp [DataW.trod] at h
  | n + 1, t, cs, x, h, hw => by
    unfold Fits
    split
    · rename_i hu
      obtain ⟨b, hb, _⟩ := DataW.trod_bool hu h
      exact ⟨b, hb⟩
    · rename_i k hu
      obtain ⟨y, hy, _, hwf⟩ := DataW.trod_int hu h
      exact ⟨y, hy, hwf⟩
    · rename_i hu
      obtain ⟨s, hs, rfl, hl⟩ := DataW.trod_string hu h
      refine ⟨s, hs, ?_⟩
      have := hw s.data.toList.length (by simp [DataW.weights])
      simpa using this
    · rename_i e hu
      rcases DataW.trod_slice hu h with ⟨rfl, rfl⟩ | ⟨a, len, cap, elems, rest, m, hm, rfl, rfl, _, hl, hc, hel, hat, _, _⟩
      · exact ⟨none, 0, 0, rfl, by simp, Nat.le_refl _, by simp, .inl ⟨rfl, rfl, rfl⟩⟩
      · have hmn : m = n := by omega
        subst hmn
        refine ⟨some a, len, cap, rfl, ?_, hl, hc, .inr ⟨a, rfl, fun i hi => ?_⟩⟩
        · have := hw (((elems.map (·.1)).length + (rest.map (·.1)).length) * P.bytesOf e) (by simp [DataW.weights, hu])
          rw [List.length_map, hel] at this
          exact Nat.le_trans (Nat.mul_le_mul_right _ (by omega)) this
        · have h1 := hat i hi
          have hie : i < elems.length := by omega
          rw [List.getElem?_eq_getElem hie] at h1
          obtain ⟨cs', hc1, hc2⟩ := Option.bind_eq_some_iff.1 h1
          refine ⟨cs', hc1, fits_of_trod m e cs' _ hc2 (fun k hk => hw k ?_)⟩
          simp only [DataW.weights, hu]
          refine List.mem_cons.2 (.inr (List.mem_append.2 (.inl (weightsAll_mem (d := (elems[i]).1) ?_ hk))))
          exact List.mem_map.2 ⟨elems[i], List.getElem_mem _, rfl⟩
    · rename_i fs hu
      obtain ⟨xs, m, hm, rfl, hl, hxs, hf⟩ := DataW.trod_struct hu h
      have hmn : m = n := by omega
      subst hmn
      refine ⟨hl, fun i f hi => ?_⟩
      have h1 := hf i f hi
      have hil : i < fs.size := (Array.getElem?_eq_some_iff.1 hi).1
      rw [List.getElem?_eq_getElem (by omega)] at h1
      refine fits_of_trod m f.type _ _ h1 (fun k hk => hw k ?_)
      simp only [DataW.weights, hu]
      exact DataW.weights_mem_each (j := i) (t := f.type) (d := (xs[i]'(by omega)).1) (by simp [hi]) (by rw [List.getElem?_map, List.getElem?_eq_getElem (by omega)]; rfl) k hk
    · trivial
theorem fits_int {n : Nat} {t : TypeId} {k : IntKind} {cs : List Value} (hu : P.underlying t = some (.int k)) (h : Fits P w n t cs) : ∃ x, cs = [.int k x] ∧ (Lit.int k x).wf = true := by
  cases n with
  | zero => exact h.elim
  | succ n => unfold Fits at h; rw [hu] at h; exact h
theorem fits_bool {n : Nat} {t : TypeId} {cs : List Value} (hu : P.underlying t = some .bool) (h : Fits P w n t cs) : ∃ b, cs = [.bool b] := by
  cases n with
  | zero => exact h.elim
  | succ n => unfold Fits at h; rw [hu] at h; exact h
theorem fits_string {n : Nat} {t : TypeId} {cs : List Value} (hu : P.underlying t = some .string) (h : Fits P w n t cs) : ∃ s : ByteArray, cs = [.string s] ∧ s.size ≤ reachBytes := by
  cases n with
  | zero => exact h.elim
  | succ n => unfold Fits at h; rw [hu] at h; exact h
theorem fits_slice {n : Nat} {t e : TypeId} {cs : List Value} (hu : P.underlying t = some (.slice e)) (h : Fits P w n t cs) : ∃ a len cap, cs = [.slice a len cap] := by
  cases n with
  | zero => exact h.elim
  | succ n => unfold Fits at h; rw [hu] at h; obtain ⟨a, l, c, e, _⟩ := h; exact ⟨a, l, c, e⟩
theorem fits_len {n : Nat} {t : TypeId} {fs : Array Field} {cs : List Value} (hu : P.underlying t = some (.struct fs)) (h : Fits P w n t cs) (k : Nat) (hk : P.cellsOf t = k) : cs.length = k := by
  cases n with
  | zero => exact h.elim
  | succ n => unfold Fits at h; rw [hu] at h; exact h.1.trans hk
theorem fits_field {n : Nat} {t : TypeId} {fs : Array Field} {cs : List Value} (hu : P.underlying t = some (.struct fs)) (h : Fits P w n t cs) (j : Nat) (f : Field) (hj : fs[j]? = some f) (k : Nat) (hk : P.cellsOf f.type = k)
    (sub : List Value) (hs : (cs.drop f.offset).take k = sub) : ∃ m, Fits P w m f.type sub := by
  cases n with
  | zero => exact h.elim
  | succ n => unfold Fits at h; rw [hu] at h; exact ⟨n, by have := h.2 j f hj; rw [hk, hs] at this; exact this⟩
/-- The elements of a slice that came in, each in K cells of its own. -/
theorem fits_elems {n : Nat} {t e : TypeId} {a : Option Addr} {len cap : Nat} (hu : P.underlying t = some (.slice e)) (h : Fits P w n t [.slice a len cap]) (K B : Nat) (hK : P.cellsOf e = K) (hB : P.bytesOf e = B) (hpos : 0 < K) :
    len * B ≤ reachBytes ∧ len ≤ maxLen ∧ len ≤ cap ∧ cap ≤ maxLen ∧ (len = 0 ∨ ∃ b off, a = some ⟨b, off, none⟩ ∧ b < w.heap.size ∧ ∀ i, i < len → ∃ (m : Nat) (cs : List Value), cs.length = K ∧ (∀ j, j < K → w.cell? ⟨b, off + i * K + j, none⟩ = cs[j]?) ∧ Fits P w m e cs) := by
  cases n with
  | zero => exact h.elim
  | succ n =>
    unfold Fits at h; rw [hu] at h
    obtain ⟨a', len', cap', heq, h1, h2, h3, h4⟩ := h
    obtain ⟨rfl, rfl, rfl⟩ : a = a' ∧ len = len' ∧ cap = cap' := by simpa using heq
    rw [hB] at h1
    refine ⟨h1, by omega, h2, h3, ?_⟩
    rcases h4 with ⟨rfl, rfl, rfl⟩ | ⟨x, rfl, hel⟩
    · exact .inl rfl
    · by_cases h0 : len = 0
      · exact .inl h0
      · have key : ∀ i, i < len → ∃ cs : List Value, cs.length = K ∧ (∀ j, j < K → w.cell? ((x.add (i * K)).add j) = cs[j]?) ∧ Fits P w n e cs := by
          intro i hi
          obtain ⟨cs', hc, hf⟩ := hel i hi
          rw [hK] at hc
          unfold World.cells? at hc
          rw [if_pos (Nat.zero_le _)] at hc
          have hlen := mapM_some_length hc
          simp only [List.length_range] at hlen
          refine ⟨cs', hlen, fun j hj => ?_, hf⟩
          exact mapM_some_get hc j j (by simp [hj])
        obtain ⟨b, off, spot⟩ := x
        have hsp : spot = none := by
          obtain ⟨cs, hl, hj, _⟩ := key 0 (by omega)
          have h5 := hj 0 hpos
          rw [List.getElem?_eq_getElem (by omega)] at h5
          simpa [Addr.add] using World.cell?_spot h5
        subst hsp
        refine .inr ⟨b, off, rfl, ?_, fun i hi => ?_⟩
        · obtain ⟨cs, hl, hj, _⟩ := key 0 (by omega)
          have h5 := hj 0 hpos
          rw [List.getElem?_eq_getElem (by omega)] at h5
          simpa [Addr.add] using World.block_lt_of_cell? _ _ h5
        · obtain ⟨cs, hl, hj, hf⟩ := key i hi
          refine ⟨n, cs, hl, fun j hjK => ?_, hf⟩
          rw [← hj j hjK]
          congr 1
          unfold Addr.add
          split <;> split <;> simp_all
/-- An argument's reading, and its weight. -/
theorem fits_arg {t : TypeId} {v : Value} {d : DataW H} {p : List MemPlace} {ts : List TypeId} {ds : List (DataW H)} {j : Nat}
    (hsz : (DataW.weightsEach P ts ds).all (· ≤ reachBytes) = true) (ht : ts[j]? = some t) (hd : ds[j]? = some d)
    (h : DataW.Trod enc P w 0 spare held t v d p) : ∃ n, Fits P w n t v.cells.toList := by
  obtain ⟨fuel, hf⟩ := h
  refine ⟨fuel, fits_of_trod fuel t _ _ hf (fun n hn => ?_)⟩
  have := List.all_eq_true.1 hsz _ (DataW.weights_mem_each ht hd n hn)
  simpa using this
end
end Go.Proofs.Ytcnlomknmhgpbaa.Fit
