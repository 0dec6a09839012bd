/- The walks and the plain laws of Hp, Fit, Atom, AtomC, AtomD, Once, OnceD, Sl, GateC, Ow. -/
import Derived.Below
import Derived.OneCell
import Derived.Laws.NewBlocks
import Derived.Deep.Draws
import Derived.ChangeArms
import Derived.SizedLaws
import Derived.ProofKit
import Derived.OpenShut
import Derived.Laws.LoneSync
import Derived.KernelRfl
import Derived.Test.YtinaliblnihpbaaGreatProg
import Derived.WalkKit
import Derived.RegionTactic
import Derived.RegionCalls
import Derived.Deep.QuietTactic
import Derived.BigQuiet
import Derived.StillTailTactics
import Derived.Lib.Builder
import Derived.Defers
import Derived.Laws.Pointers
import Derived.Lib.Hide
import Derived.OwnWalk
import Derived.Laws.AppendOwn
import Derived.Laws.BytesArg
import Derived.Laws.AppendOwnNone
import Derived.Laws.MakeOwn
import Derived.Lib.SliceRun
import Derived.WalkSpells
import Derived.Deep.Cut
set_option linter.unusedVariables false
set_option linter.unusedSimpArgs false
open Go.Lib (hid)
namespace Go.Proofs.YtinaliblnihpbaaGreat
namespace Hp
open Go Go.RowKit

def Has (w : World) (b : Nat) (T : TypeId) (cs : List Value) : Prop := w.heap[b]? = some (.cells cs.toArray T (0, 0))
variable {w w' w'' : World} {b k : Nat} {T : TypeId} {cs : List Value}
theorem Has.lt (h : Has w b T cs) : b < w.heap.size := lt_of_block h
theorem Has.cell (h : Has w b T cs) (i : Nat) {v : Value} (hi : cs[i]? = some v) : w.cell? ⟨b, i, none⟩ = some v := by
  unfold Has at h; simp [World.cell?, h, hi]
theorem Has.free (h : Has w b T cs) (i : Nat) : w.frozen? ⟨b, i, none⟩ = false := by
  unfold Has at h; simp [World.frozen?, h]
theorem Has.set (h : Has w b T cs) (i : Nat) (v : Value) : Has (w.setCell ⟨b, i, none⟩ v) b T (cs.set i v) := by
  have hlt := h.lt
  have h' : w.heap[b] = .cells cs.toArray T (0, 0) := by unfold Has at h; simpa [Array.getElem?_eq_getElem hlt] using h
  show (w.heap.modify b _)[b]? = _
  rw [Array.getElem?_eq_getElem (by simpa using hlt), Array.getElem_modify_self, h']
  simp
theorem Has.set_ne (h : Has w b T cs) (a : Addr) (v : Value) (hne : b ≠ a.block) : Has (w.setCell a v) b T cs := by
  unfold Has; rw [Below.heap_setCell _ _ _ _ hne]; exact h
theorem Has.alloc (h : Has w b T cs) (o : Obj) : Has (w.alloc o) b T cs := by
  unfold Has; rw [Below.heap_alloc _ _ _ h.lt]; exact h
theorem Has.drew (h : Has w b T cs) : Has w.drew b T cs := h
theorem Has.drewN (h : Has w b T cs) (n : Nat) : Has (w.drewN n) b T cs := h
theorem Has.new (w : World) (T : TypeId) (cs : List Value) : Has (w.alloc (.cells cs.toArray T)) w.heap.size T cs := by
  show (w.heap.push _)[w.heap.size]? = _
  simp

structure Kept (S : List Nat) (w w' : World) : Prop where
  os : w'.os = w.os
  tape : w'.tape = w.tape
  output : w'.output = w.output
  size : w.heap.size ≤ w'.heap.size
  block : ∀ k, k < w.heap.size → k ∉ S → w'.heap[k]? = w.heap[k]?
theorem Kept.refl (S : List Nat) (w : World) : Kept S w w := ⟨rfl, rfl, rfl, Nat.le_refl _, fun _ _ _ => rfl⟩
theorem Kept.trans {S : List Nat} (h : Kept S w w') (k : Kept S w' w'') : Kept S w w'' :=
  ⟨k.os.trans h.os, k.tape.trans h.tape, k.output.trans h.output, Nat.le_trans h.size k.size, fun i hi hn => (k.block i (Nat.lt_of_lt_of_le hi h.size) hn).trans (h.block i hi hn)⟩
theorem Kept.mono {S S' : List Nat} (h : Kept S w w') (hs : ∀ k, k ∈ S → k ∈ S') : Kept S' w w' :=
  ⟨h.os, h.tape, h.output, h.size, fun i hi hn => h.block i hi (fun e => hn (hs i e))⟩
theorem Kept.shed {S S' : List Nat} (h : Kept S w w') (hs : ∀ k, k ∈ S → k < w.heap.size → k ∈ S') : Kept S' w w' :=
  ⟨h.os, h.tape, h.output, h.size, fun i hi hn => h.block i hi (fun e => hn (hs i e hi))⟩
theorem Kept.drew {S : List Nat} (h : Kept S w w') : Kept S w w'.drew := ⟨h.os, h.tape, h.output, h.size, h.block⟩
theorem Kept.drewN {S : List Nat} (h : Kept S w w') (n : Nat) : Kept S w (w'.drewN n) := ⟨h.os, h.tape, h.output, h.size, h.block⟩
theorem Kept.alloc {S : List Nat} (h : Kept S w w') (o : Obj) : Kept S w (w'.alloc o) :=
  ⟨h.os, h.tape, h.output, by simp; have := h.size; omega, fun i hi hn => by rw [Below.heap_alloc _ _ _ (Nat.lt_of_lt_of_le hi h.size)]; exact h.block i hi hn⟩
theorem Kept.set {S : List Nat} (h : Kept S w w') (a : Addr) (v : Value) (ha : a.block < w.heap.size → a.block ∈ S) : Kept S w (w'.setCell a v) :=
  ⟨h.os, h.tape, h.output, by simpa using h.size, fun i hi hn => by
    rw [Below.heap_setCell _ _ _ _ (fun e => by subst e; exact hn (ha hi))]; exact h.block i hi hn⟩
theorem Kept.has {S : List Nat} (h : Kept S w w') (hb : Has w b T cs) (hn : b ∉ S) : Has w' b T cs := by
  unfold Has; rw [h.block b hb.lt hn]; exact hb
theorem Kept.cell {S : List Nat} (h : Kept S w w') {p : Addr} (hp : p.block < w.heap.size) (hn : p.block ∉ S) : w'.cell? p = w.cell? p := World.cell?_of_block (h.block _ hp hn)
theorem Kept.below {S : List Nat} (h : Kept S w w') {B : Nat} (hB : B ≤ w.heap.size) (hs : ∀ k, k ∈ S → B ≤ k) : Below B w w' :=
  ⟨h.os, h.tape, h.output, h.size, fun i hi => h.block i (by omega) (fun e => by have := hs i e; omega)⟩
theorem Kept.fresh {S S' : List Nat} (h : Kept S' w w') (k : Kept S w' w'') (hs : ∀ i, i ∈ S → i < w.heap.size → i ∈ S') : Kept S' w w'' :=
  ⟨k.os.trans h.os, k.tape.trans h.tape, k.output.trans h.output, Nat.le_trans h.size k.size, fun i hi hn => (k.block i (Nat.lt_of_lt_of_le hi h.size) (fun e => hn (hs i e hi))).trans (h.block i hi hn)⟩
theorem Kept.toBelow {S : List Nat} (h : Kept S w w') (hs : ∀ i, i ∈ S → w.heap.size ≤ i) : Below w.heap.size w w' := h.below (Nat.le_refl _) hs
end Hp
namespace Fit
open Go Go.RowKit Hp
def Fits (P : Program) (w : World) : Nat → TypeId → List Value → Prop
  | 0, _, _ => False
  | n + 1, t, cs => match P.underlying t with
    | some .bool => ∃ b, cs = [.bool b]
    | some (.int k) => ∃ x, cs = [.int k x] ∧ (Lit.int k x).wf = true
    | some .string => ∃ s : ByteArray, cs = [.string s] ∧ s.size ≤ reachBytes
    | some (.slice e) => ∃ a len cap, cs = [.slice a len cap] ∧ len * P.bytesOf e ≤ reachBytes ∧ len ≤ cap ∧ cap ≤ maxLen ∧
        ((a = none ∧ len = 0 ∧ cap = 0) ∨ ∃ x, a = some x ∧ ∀ i, i < len → ∃ cs', w.cells? 0 (x.add (i * P.cellsOf e)) (P.cellsOf e) = some cs' ∧ Fits P w n e cs')
    | some (.struct fs) => cs.length = P.cellsOf t ∧ ∀ (i : Nat) (f : Field), fs[i]? = some f → Fits P w n f.type ((cs.drop f.offset).take (P.cellsOf f.type))
    | _ => True
section
variable {H : Type} {enc : TypeId × Value → H} {P : Program} {w : World} {spare : Nat → Bool} {held : Bool}
theorem weightsAll_mem {e : TypeId} : ∀ {ds : List (DataW H)} {d : DataW H} {n : Nat}, d ∈ ds → n ∈ d.weights P e → n ∈ DataW.weightsAll P e ds
  | d :: r, _, n, h, hn => by
    rw [DataW.weightsAll]
    rcases List.mem_cons.1 h with rfl | h
    · exact List.mem_append.2 (.inl hn)
    · exact List.mem_append.2 (.inr (weightsAll_mem h hn))
theorem fits_of_trod : ∀ (fuel : Nat) (t : TypeId) (cs : List Value) (x : DataW H × List MemPlace),
    DataW.trod enc P w 0 spare held fuel t cs = some x → (∀ n, n ∈ x.1.weights P t → n ≤ reachBytes) → Fits P w fuel t cs
  | 0, t, cs, x, h, hw => by simp [DataW.trod] at h
  | n + 1, t, cs, x, h, hw => by
    unfold Fits
    split
    · rename_i hu
      obtain ⟨b, hb, _⟩ := DataW.trod_bool hu h
      exact ⟨b, hb⟩
    · rename_i k hu
      obtain ⟨y, hy, _, hwf⟩ := DataW.trod_int hu h
      exact ⟨y, hy, hwf⟩
    · rename_i hu
      obtain ⟨s, hs, rfl, hl⟩ := DataW.trod_string hu h
      refine ⟨s, hs, ?_⟩
      have := hw s.data.toList.length (by simp [DataW.weights])
      simpa using this
    · rename_i e hu
      rcases DataW.trod_slice hu h with ⟨rfl, rfl⟩ | ⟨a, len, cap, elems, rest, m, hm, rfl, rfl, _, hl, hc, hel, hat, _, _⟩
      · exact ⟨none, 0, 0, rfl, by simp, Nat.le_refl _, by simp, .inl ⟨rfl, rfl, rfl⟩⟩
      · have hmn : m = n := by omega
        subst hmn
        refine ⟨some a, len, cap, rfl, ?_, hl, hc, .inr ⟨a, rfl, fun i hi => ?_⟩⟩
        · have := hw (((elems.map (·.1)).length + (rest.map (·.1)).length) * P.bytesOf e) (by simp [DataW.weights, hu])
          rw [List.length_map, hel] at this
          exact Nat.le_trans (Nat.mul_le_mul_right _ (by omega)) this
        · have h1 := hat i hi
          have hie : i < elems.length := by omega
          rw [List.getElem?_eq_getElem hie] at h1
          obtain ⟨cs', hc1, hc2⟩ := Option.bind_eq_some_iff.1 h1
          refine ⟨cs', hc1, fits_of_trod m e cs' _ hc2 (fun k hk => hw k ?_)⟩
          simp only [DataW.weights, hu]
          refine List.mem_cons.2 (.inr (List.mem_append.2 (.inl (weightsAll_mem (d := (elems[i]).1) ?_ hk))))
          exact List.mem_map.2 ⟨elems[i], List.getElem_mem _, rfl⟩
    · rename_i fs hu
      obtain ⟨xs, m, hm, rfl, hl, hxs, hf⟩ := DataW.trod_struct hu h
      have hmn : m = n := by omega
      subst hmn
      refine ⟨hl, fun i f hi => ?_⟩
      have h1 := hf i f hi
      have hil : i < fs.size := (Array.getElem?_eq_some_iff.1 hi).1
      rw [List.getElem?_eq_getElem (by omega)] at h1
      refine fits_of_trod m f.type _ _ h1 (fun k hk => hw k ?_)
      simp only [DataW.weights, hu]
      exact DataW.weights_mem_each (j := i) (t := f.type) (d := (xs[i]'(by omega)).1) (by simp [hi]) (by rw [List.getElem?_map, List.getElem?_eq_getElem (by omega)]; rfl) k hk
    · trivial
theorem fits_int {n : Nat} {t : TypeId} {k : IntKind} {cs : List Value} (hu : P.underlying t = some (.int k)) (h : Fits P w n t cs) : ∃ x, cs = [.int k x] ∧ (Lit.int k x).wf = true := by
  cases n with
  | zero => exact h.elim
  | succ n => unfold Fits at h; rw [hu] at h; exact h
theorem fits_bool {n : Nat} {t : TypeId} {cs : List Value} (hu : P.underlying t = some .bool) (h : Fits P w n t cs) : ∃ b, cs = [.bool b] := by
  cases n with
  | zero => exact h.elim
  | succ n => unfold Fits at h; rw [hu] at h; exact h
theorem fits_slice {n : Nat} {t e : TypeId} {cs : List Value} (hu : P.underlying t = some (.slice e)) (h : Fits P w n t cs) : ∃ a len cap, cs = [.slice a len cap] := by
  cases n with
  | zero => exact h.elim
  | succ n => unfold Fits at h; rw [hu] at h; obtain ⟨a, l, c, e, _⟩ := h; exact ⟨a, l, c, e⟩
theorem fits_len {n : Nat} {t : TypeId} {fs : Array Field} {cs : List Value} (hu : P.underlying t = some (.struct fs)) (h : Fits P w n t cs) (k : Nat) (hk : P.cellsOf t = k) : cs.length = k := by
  cases n with
  | zero => exact h.elim
  | succ n => unfold Fits at h; rw [hu] at h; exact h.1.trans hk
theorem fits_field {n : Nat} {t : TypeId} {fs : Array Field} {cs : List Value} (hu : P.underlying t = some (.struct fs)) (h : Fits P w n t cs) (j : Nat) (f : Field) (hj : fs[j]? = some f) (k : Nat) (hk : P.cellsOf f.type = k)
    (sub : List Value) (hs : (cs.drop f.offset).take k = sub) : ∃ m, Fits P w m f.type sub := by
  cases n with
  | zero => exact h.elim
  | succ n => unfold Fits at h; rw [hu] at h; exact ⟨n, by have := h.2 j f hj; rw [hk, hs] at this; exact this⟩
theorem fits_elems {n : Nat} {t e : TypeId} {a : Option Addr} {len cap : Nat} (hu : P.underlying t = some (.slice e)) (h : Fits P w n t [.slice a len cap]) (K B : Nat) (hK : P.cellsOf e = K) (hB : P.bytesOf e = B) (hpos : 0 < K) :
    len * B ≤ reachBytes ∧ len ≤ maxLen ∧ len ≤ cap ∧ cap ≤ maxLen ∧ (len = 0 ∨ ∃ b off, a = some ⟨b, off, none⟩ ∧ b < w.heap.size ∧ ∀ i, i < len → ∃ (m : Nat) (cs : List Value), cs.length = K ∧ (∀ j, j < K → w.cell? ⟨b, off + i * K + j, none⟩ = cs[j]?) ∧ Fits P w m e cs) := by
  cases n with
  | zero => exact h.elim
  | succ n =>
    unfold Fits at h; rw [hu] at h
    obtain ⟨a', len', cap', heq, h1, h2, h3, h4⟩ := h
    obtain ⟨rfl, rfl, rfl⟩ : a = a' ∧ len = len' ∧ cap = cap' := by simpa using heq
    rw [hB] at h1
    refine ⟨h1, by omega, h2, h3, ?_⟩
    rcases h4 with ⟨rfl, rfl, rfl⟩ | ⟨x, rfl, hel⟩
    · exact .inl rfl
    · by_cases h0 : len = 0
      · exact .inl h0
      · have key : ∀ i, i < len → ∃ cs : List Value, cs.length = K ∧ (∀ j, j < K → w.cell? ((x.add (i * K)).add j) = cs[j]?) ∧ Fits P w n e cs := by
          intro i hi
          obtain ⟨cs', hc, hf⟩ := hel i hi
          rw [hK] at hc
          unfold World.cells? at hc
          rw [if_pos (Nat.zero_le _)] at hc
          have hlen := mapM_some_length hc
          simp only [List.length_range] at hlen
          refine ⟨cs', hlen, fun j hj => ?_, hf⟩
          exact mapM_some_get hc j j (by simp [hj])
        obtain ⟨b, off, spot⟩ := x
        have hsp : spot = none := by
          obtain ⟨cs, hl, hj, _⟩ := key 0 (by omega)
          have h5 := hj 0 hpos
          rw [List.getElem?_eq_getElem (by omega)] at h5
          simpa [Addr.add] using World.cell?_spot h5
        subst hsp
        refine .inr ⟨b, off, rfl, ?_, fun i hi => ?_⟩
        · obtain ⟨cs, hl, hj, _⟩ := key 0 (by omega)
          have h5 := hj 0 hpos
          rw [List.getElem?_eq_getElem (by omega)] at h5
          simpa [Addr.add] using World.block_lt_of_cell? _ _ h5
        · obtain ⟨cs, hl, hj, hf⟩ := key i hi
          refine ⟨n, cs, hl, fun j hjK => ?_, hf⟩
          rw [← hj j hjK]
          congr 1
          unfold Addr.add
          split <;> split <;> simp_all
theorem fits_arg {t : TypeId} {v : Value} {d : DataW H} {p : List MemPlace} {ts : List TypeId} {ds : List (DataW H)} {j : Nat}
    (hsz : (DataW.weightsEach P ts ds).all (· ≤ reachBytes) = true) (ht : ts[j]? = some t) (hd : ds[j]? = some d)
    (h : DataW.Trod enc P w 0 spare held t v d p) : ∃ n, Fits P w n t v.cells.toList := by
  obtain ⟨fuel, hf⟩ := h
  refine ⟨fuel, fits_of_trod fuel t _ _ hf (fun n hn => ?_)⟩
  have := List.all_eq_true.1 hsz _ (DataW.weights_mem_each ht hd n hn)
  simpa using this
end
end Fit
namespace Atom
open Go
variable {P : Program} {f : FuncId} {fn : Func}
theorem run_call_swapp (hf : P.funcs[f]? = some fn) (hname : (fn.name == "runtime.NumGoroutine") = false) (hb : fn.body.isNone = true) (hn : Extern.findNext fn = none)
    (he : Extern.find fn = some (Extern.Atomic.swapT .ptr)) {a : Addr} {x y : Option Addr} {w : World} (hc : w.cell? a = some (.pointer x)) (hz : w.frozen? a = false) :
    (callFunc f #[.pointer (some a), .pointer y]).run P w = .ok (.value (.pointer x)) (w.setCell a (.pointer y)) := by
  rw [run_callFunc_extern hf hname hb hn he]
  change (Sem.run P (do
    let a' ← asAddr (.pointer (some a))
    let old ← Extern.Atomic.read .ptr a'
    store a' (.pointer y) .atomic
    pure old) w).andThen _ = _
  simp [Extern.Atomic.read, asAddr, hc, hz, run_store P w a (.pointer y) .atomic rfl, Result.andThen]
end Atom
namespace AtomC
open Go Go.RowKit Hp Atom

theorem u64_load (a : Addr) (x : Int) (w : World) (hc : w.cell? a = some (.int .u64 x)) :
    Calls Tryz.prog 148 #[.pointer (some a)] w fun e w' => e = .returned (.int .u64 x) ∧ w = w' := by
  have hl := run_call_load (P := Tryz.prog) Tryz.func176 (by kernel_rfl) (by kernel_rfl) (by kernel_rfl) .u64 (by kernel_rfl) hc
  go_enter Tryz.func148, Tryz.ntmps148
  go_wp2
  go_ret
  exact ⟨rfl, rfl⟩
theorem i64_load (a : Addr) (x : Int) (w : World) (hc : w.cell? a = some (.int .i64 x)) :
    Calls Tryz.prog 152 #[.pointer (some a)] w fun e w' => e = .returned (.int .i64 x) ∧ w = w' := by
  have hl := run_call_load (P := Tryz.prog) Tryz.func180 (by kernel_rfl) (by kernel_rfl) (by kernel_rfl) .i64 (by kernel_rfl) hc
  go_enter Tryz.func152, Tryz.ntmps152
  go_wp2
  go_ret
  exact ⟨rfl, rfl⟩
def b32 (b : Bool) : Int := if b then 1 else 0
theorem b32_bne (b : Bool) : (b32 b != 0) = b := by cases b <;> rfl
theorem bool_load (a : Addr) (b : Bool) (w : World) (hc : w.cell? a = some (.int .u32 (b32 b))) :
    Calls Tryz.prog 142 #[.pointer (some a)] w fun e w' => e = .returned (.bool b) ∧ w = w' := by
  have hl := run_call_load (P := Tryz.prog) Tryz.func174 (by kernel_rfl) (by kernel_rfl) (by kernel_rfl) .u32 (by kernel_rfl) hc
  have hb := b32_bne b
  go_enter Tryz.func142, Tryz.ntmps142
  go_wp2
  go_ret
  exact ⟨rfl, rfl⟩
theorem b32_call (b : Bool) (w : World) :
    Calls Tryz.prog 172 #[.bool b] w fun e w' => e = .returned (.int .u32 (b32 b)) ∧ w = w' := by
  cases b <;>
  · go_enter Tryz.func172, Tryz.ntmps172
    go_wp2
    go_ret
    exact ⟨rfl, rfl⟩
theorem u64_cas (a : Addr) (x y : Int) (w : World) (hc : w.cell? a = some (.int .u64 x)) (hz : w.frozen? a = false) :
    Calls Tryz.prog 149 #[.pointer (some a), .int .u64 x, .int .u64 y] w fun e w' => e = .returned (.bool true) ∧ w' = w.setCell a (.int .u64 y) := by
  have hl := run_call_cas_hit (P := Tryz.prog) Tryz.func177 (by kernel_rfl) (by kernel_rfl) (by kernel_rfl) .u64 (by kernel_rfl) (y := y) hc hz
  go_enter Tryz.func149, Tryz.ntmps149
  go_wp2
  go_ret
  exact ⟨rfl, rfl⟩
theorem i64_cas (a : Addr) (x y : Int) (w : World) (hc : w.cell? a = some (.int .i64 x)) (hz : w.frozen? a = false) :
    Calls Tryz.prog 153 #[.pointer (some a), .int .i64 x, .int .i64 y] w fun e w' => e = .returned (.bool true) ∧ w' = w.setCell a (.int .i64 y) := by
  have hl := run_call_cas_hit (P := Tryz.prog) Tryz.func181 (by kernel_rfl) (by kernel_rfl) (by kernel_rfl) .i64 (by kernel_rfl) (y := y) hc hz
  go_enter Tryz.func153, Tryz.ntmps153
  go_wp2
  go_ret
  exact ⟨rfl, rfl⟩
theorem i64_store (a : Addr) (u : Value) (y : Int) (w : World) (hc : w.cell? a = some u) (hz : w.frozen? a = false) :
    Calls Tryz.prog 151 #[.pointer (some a), .int .i64 y] w fun e w' => e = .returned (.tuple #[]) ∧ w' = w.setCell a (.int .i64 y) := by
  have hl := run_call_store (P := Tryz.prog) Tryz.func179 (by kernel_rfl) (by kernel_rfl) (by kernel_rfl) (by kernel_rfl) (k := .i64) (y := y) hc hz
  go_enter Tryz.func151, Tryz.ntmps151
  go_wp2
  go_end0
  exact ⟨rfl, rfl⟩
end AtomC
namespace AtomC
open Go Go.RowKit Hp Atom

theorem b32_still (b : Bool) (w : World) : Calls Tryz.prog 172 #[.bool b] w fun e w' => e = .returned (.int .u32 (b32 b)) ∧ w' = w :=
  (b32_call b w).mono fun e w' ⟨h, h'⟩ => ⟨h, h'.symm⟩
set_option maxRecDepth 100000 in
theorem bool_store (a : Addr) (u : Value) (y : Bool) (w : World) (hc : w.cell? a = some u) (hz : w.frozen? a = false) :
    Calls Tryz.prog 139 #[.pointer (some a), .bool y] w fun e w' => e = .returned (.tuple #[]) ∧ w' = w.drew.setCell a (.int .u32 (b32 y)) := by
  have hc' : w.drew.cell? a = some u := by go_simp
  have hz' : w.drew.frozen? a = false := by go_simp
  have hst := run_call_store (P := Tryz.prog) Tryz.func171 (by kernel_rfl) (by kernel_rfl) (by kernel_rfl) (by kernel_rfl) (k := .u32) (y := b32 y) hc' hz'
  go_enter Tryz.func139, Tryz.ntmps139
  go_wp2
  refine wp_region_still_tail 5 (by kernel_rfl) (by kernel_rfl) ?_
  simp only [List.take_succ_cons, List.take_zero, List.drop_succ_cons, List.drop_zero]
  repeat (first | still_step | still_call (b32_still _ _))
  refine wpStill_nil ?_
  change wpList _ _ _ _ _ w.drew
  go_wp2
  go_end0
  exact ⟨rfl, rfl⟩
set_option maxRecDepth 100000 in
theorem bool_cas_ft (a : Addr) (x : Bool) (w : World) (hc : w.cell? a = some (.int .u32 (b32 x))) (hz : w.frozen? a = false) :
    Calls Tryz.prog 150 #[.pointer (some a), .bool false, .bool true] w fun e w' => e = .returned (.bool !x) ∧ w' = if x then w.drew else w.drew.setCell a (.int .u32 1) := by
  have hc' : w.drew.cell? a = some (.int .u32 (b32 x)) := by go_simp
  have hz' : w.drew.frozen? a = false := by go_simp
  have hst : (callFunc 178 #[.pointer (some a), .int .u32 (b32 false), .int .u32 (b32 true)]).run Tryz.prog w.drew = .ok (.value (.bool !x)) (if x then w.drew else w.drew.setCell a (.int .u32 1)) := by
    cases x
    · exact run_call_cas_hit (P := Tryz.prog) Tryz.func178 (by kernel_rfl) (by kernel_rfl) (by kernel_rfl) .u32 (by kernel_rfl) (x := 0) (y := 1) hc' hz'
    · exact run_call_cas_miss (P := Tryz.prog) Tryz.func178 (by kernel_rfl) (by kernel_rfl) (by kernel_rfl) .u32 (by kernel_rfl) (x := 1) (o := 0) (y := 1) hc' hz' (by decide)
  generalize (if x then w.drew else w.drew.setCell a (.int .u32 1)) = W' at hst ⊢
  go_enter Tryz.func150, Tryz.ntmps150
  go_wp2
  refine wp_region_still_tail 7 (by kernel_rfl) (by kernel_rfl) ?_
  simp only [List.take_succ_cons, List.take_zero, List.drop_succ_cons, List.drop_zero]
  repeat (first | still_step | still_call (b32_still _ _))
  refine wpStill_nil ?_
  change wpList _ _ _ _ _ w.drew
  go_wp2
  go_ret
  exact ⟨rfl, rfl⟩
theorem i64_add (a : Addr) (x y : Int) (w : World) (hc : w.cell? a = some (.int .i64 x)) (hz : w.frozen? a = false) :
    Calls Tryz.prog 191 #[.pointer (some a), .int .i64 y] w fun e w' => e = .returned (.int .i64 (wrap64 (x + y))) ∧ w' = w.setCell a (.int .i64 (wrap64 (x + y))) := by
  have hl := run_call_add (P := Tryz.prog) Tryz.func198 (by kernel_rfl) (by kernel_rfl) (by kernel_rfl) .i64 (by kernel_rfl) (y := y) (s := wrap64 (x + y)) hc hz (by simp [go_sem, wrap64, IntKind.wrap_i64])
  go_enter Tryz.func191, Tryz.ntmps191
  go_wp2
  go_ret
  exact ⟨rfl, rfl⟩
def IsRec (w : World) (p : Option Addr) : Prop := p = none ∨ ∃ r c0 c1 c2 c3, p = some ⟨r, 0, none⟩ ∧ Has w r 228 [c0, c1, c2, c3]
theorem rec_from {w : World} {p : Option Addr} (h : IsRec w p) : (convert 172 170 (.pointer p)).run Tryz.prog w = .ok (.pointer p) w := by
  rcases h with rfl | ⟨r, c0, c1, c2, c3, rfl, h⟩
  · simp [convert, run_underlying Tryz.underlying172, run_underlying Tryz.underlying170, Conv.unsafePointer]
  · obtain ⟨j, hj, -⟩ := Option.map_eq_some_iff.1 (show (Tryz.prog.info? 228).map (fun i => i.size) = some 4 by kernel_rfl)
    exact Go.Lib.run_from_unsafe (P := Tryz.prog) (w := w) (e := 228) (cells := 4) (a := ⟨r, 0, none⟩) (src := 172) (dst := 170) Tryz.underlying172 Tryz.underlying170 hj (by unfold Has at h; simp [World.shape?, h]) (by kernel_rfl)
theorem rec_to {w : World} {p : Option Addr} (h : IsRec w p) : (convert 170 172 (.pointer p)).run Tryz.prog w = .ok (.pointer p) w := by
  rcases h with rfl | ⟨r, c0, c1, c2, c3, rfl, h⟩
  · simp [convert, run_underlying Tryz.underlying172, run_underlying Tryz.underlying170, Conv.unsafePointer]
  · obtain ⟨j, hj, hs⟩ := Option.map_eq_some_iff.1 (show (Tryz.prog.info? 228).map (fun i => i.size) = some 4 by kernel_rfl)
    exact Go.Lib.run_to_unsafe (P := Tryz.prog) (w := w) (e := 228) (cells := 4) (a := ⟨r, 0, none⟩) (src := 170) (dst := 172) Tryz.underlying170 Tryz.underlying172 hj (by rw [hs]; decide) (by unfold Has at h; simp [World.shape?, h]) (by simp)
theorem ptr_swap (b i : Nat) (x y : Option Addr) (w : World) (hc : w.cell? ⟨b, i, none⟩ = some (.pointer x)) (hz : w.frozen? ⟨b, i, none⟩ = false) (hx : IsRec (w.setCell ⟨b, i, none⟩ (.pointer y)) x) (hy : IsRec w y) :
    Calls Tryz.prog 161 #[.pointer (some ⟨b, i, none⟩), .pointer y] w fun e w' => e = .returned (.pointer x) ∧ w' = w.setCell ⟨b, i, none⟩ (.pointer y) := by
  have hl := run_call_swapp (P := Tryz.prog) Tryz.func185 (by kernel_rfl) (by kernel_rfl) (by kernel_rfl) (by kernel_rfl) (y := y) hc hz
  have hv := rec_from hx
  have hv' := rec_to hy
  go_enter Tryz.func161, Tryz.ntmps161
  go_wp2
  go_ret
  exact ⟨rfl, rfl⟩
end AtomC
namespace OnceC
open Go Go.RowKit Hp Atom AtomC
theorem disable (w : World) : (callFunc 207 #[]).run Tryz.prog w = .ok (.value (.tuple #[])) w := run_call_mark0 Tryz.func207 (by kernel_rfl) (by kernel_rfl) (by kernel_rfl) .disable (by kernel_rfl) w
theorem enable (w : World) : (callFunc 209 #[]).run Tryz.prog w = .ok (.value (.tuple #[])) w := run_call_mark0 Tryz.func209 (by kernel_rfl) (by kernel_rfl) (by kernel_rfl) .enable (by kernel_rfl) w
theorem acquire (a : Addr) (w : World) : (callFunc 210 #[.pointer (some a)]).run Tryz.prog w = .ok (.value (.tuple #[])) w := run_call_marked Tryz.func210 (by kernel_rfl) (by kernel_rfl) (by kernel_rfl) .acquire (by kernel_rfl) a w
theorem releaseMerge (a : Addr) (w : World) : (callFunc 212 #[.pointer (some a)]).run Tryz.prog w = .ok (.value (.tuple #[])) w := run_call_marked Tryz.func212 (by kernel_rfl) (by kernel_rfl) (by kernel_rfl) .releaseMerge (by kernel_rfl) a w
set_option maxRecDepth 100000 in
theorem store_deferred (a : Addr) (x : Value) (u : FrameMode) (w : World) (hc : w.cell? a = some x) (hz : w.frozen? a = false) :
    CallsD Tryz.prog 139 #[.pointer (some a), .bool true] u w fun e u' w' => u' = u ∧ (e = .returned (.tuple #[]) ∧ w' = w.drew.setCell a (.int .u32 1)) := by
  have hc' : w.drew.cell? a = some x := by go_simp
  have hz' : w.drew.frozen? a = false := by go_simp
  have hst := run_call_store (P := Tryz.prog) Tryz.func171 (by kernel_rfl) (by kernel_rfl) (by kernel_rfl) (by kernel_rfl) (k := .u32) (y := b32 true) hc' hz'
  go_enter_d Tryz.func139, Tryz.ntmps139
  go_wp2
  refine wp_region_still_tail 5 (by kernel_rfl) (by kernel_rfl) ?_
  simp only [List.take_succ_cons, List.take_zero, List.drop_succ_cons, List.drop_zero]
  repeat (first | still_step | still_call (b32_still _ _))
  refine wpStill_nil ?_
  change wpList _ _ _ _ _ w.drew
  go_wp2
  go_end0
  exact ⟨rfl, rfl⟩
set_option maxRecDepth 100000 in
theorem unlock_deferred (a : Addr) (u : FrameMode) (w : World) (hc : w.cell? a = some (.int .i32 1)) (hz : w.frozen? a = false) :
    CallsD Tryz.prog 204 #[.pointer (some a)] u w fun e u' w' => u' = u ∧ (e = .returned (.tuple #[]) ∧ w' = w.setCell a (.int .i32 0)) := by
  have hd := disable
  have he := enable
  have hr := releaseMerge
  have hadd := run_call_add (P := Tryz.prog) Tryz.func169 (by kernel_rfl) (by kernel_rfl) (by kernel_rfl) .i32 (by kernel_rfl) (y := -1) (s := 0) hc hz (by simp [go_sem]; rfl)
  have hcv := run_convert_to_unsafe (P := Tryz.prog) (src := 298) (dst := 172) Tryz.underlying298 Tryz.underlying172 (by kernel_rfl) hc
  go_enter_d Tryz.func204, Tryz.ntmps204
  go_wp2
  go_end0
  go_wp2
  go_end0
  exact ⟨rfl, rfl⟩
set_option maxRecDepth 100000 in
theorem lock_free (a : Addr) (w : World) (hc : w.cell? a = some (.int .i32 0)) (hz : w.frozen? a = false) :
    Calls Tryz.prog 203 #[.pointer (some a)] w fun e w' => e = .returned (.tuple #[]) ∧ w' = w.setCell a (.int .i32 1) := by
  have hd := disable
  have he := enable
  have ha := acquire
  have hcas := run_call_cas_hit (P := Tryz.prog) Tryz.func208 (by kernel_rfl) (by kernel_rfl) (by kernel_rfl) .i32 (by kernel_rfl) (y := 1) hc hz
  have hc' : (w.setCell a (.int .i32 1)).cell? a = some (.int .i32 1) := World.cell?_setCell_same w a _ hc
  have hcv := run_convert_to_unsafe (P := Tryz.prog) (src := 298) (dst := 172) Tryz.underlying298 Tryz.underlying172 (by kernel_rfl) hc'
  go_enter Tryz.func203, Tryz.ntmps203
  go_wp2
  first | go_end0 | (simp only [Exit.inBlock, Exit.then]; refine bodyPost_ret (results_none rfl _ _ _) rfl ?_) | refine bodyPost_ret (results_none rfl _ _ _) rfl ?_
  go_wp2
  go_end0
  exact ⟨rfl, rfl⟩
theorem hnot : ∀ (x : Bool) (w : World), (Op.unary .not (.bool x)).run Tryz.prog w = .ok (.bool (!x)) w := fun _ _ => rfl
theorem do_done (a : Addr) (fv : Value) (w : World) (h0 : w.cell? a = some (.int .u32 1)) :
    Calls Tryz.prog 192 #[.pointer (some a), fv] w fun e w' => e = .returned (.tuple #[]) ∧ w = w' := by
  have hn := hnot
  go_enter Tryz.func192, Tryz.ntmps192
  go_wp2_with (first | (go_at_call 142; refine (bool_load _ true _ h0).mono ?_; rintro e w' ⟨rfl, rfl⟩))
  go_end0
  exact ⟨rfl, rfl⟩
end OnceC
namespace OnceC
open Go Go.RowKit Hp Atom AtomC
def Mid (b off : Nat) (R : World → Prop) (e : Ending) (W : World) : Prop :=
  e = .returned (.tuple #[]) ∧ W.cell? ⟨b, off, none⟩ = some (.int .u32 0) ∧ W.cell? ⟨b, off + 1, none⟩ = some (.int .i32 1) ∧ W.frozen? ⟨b, off, none⟩ = false ∧ W.frozen? ⟨b, off + 1, none⟩ = false ∧ R W
def Done (b off : Nat) (R : World → Prop) (e : Ending) (w' : World) : Prop :=
  e = .returned (.tuple #[]) ∧ ∃ W, R W ∧ w' = ((W.drew).setCell ⟨b, off, none⟩ (.int .u32 1)).setCell ⟨b, off + 1, none⟩ (.int .i32 0)
set_option maxRecDepth 100000 in
set_option maxHeartbeats 1600000 in
theorem slow_ret (b off : Nat) (F : FuncId) (cap : Array Value) (w : World) (R : World → Prop) (h0 : w.cell? ⟨b, off, none⟩ = some (.int .u32 0)) (h1 : w.cell? ⟨b, off + 1, none⟩ = some (.int .i32 0))
    (f0 : w.frozen? ⟨b, off, none⟩ = false) (f1 : w.frozen? ⟨b, off + 1, none⟩ = false) (hcf : ∀ w, (callFunc F cap).run Tryz.prog w = .ok (.enter F cap) w)
    (hcall : Calls Tryz.prog F cap (w.setCell ⟨b, off + 1, none⟩ (.int .i32 1)) (Mid b off R)) :
    Calls Tryz.prog 199 #[.pointer (some ⟨b, off, none⟩), .func (.func F) #[] cap] w (Done b off R) := by
  have hL : (w.setCell ⟨b, off + 1, none⟩ (.int .i32 1)).cell? ⟨b, off, none⟩ = some (.int .u32 (b32 false)) := (World.cell?_setCell_other _ ⟨b, off + 1, none⟩ ⟨b, off, none⟩ _ (by simp)).trans h0
  have hn := hnot
  have H := hid hcall
  clear hcall
  go_enter_defers Tryz.func199, Tryz.ntmps199
  go_wp2_with (first | (go_at_call 203; refine (lock_free ⟨b, off + 1, none⟩ _ h1 f1).mono ?_; rintro e w' ⟨rfl, rfl⟩) | (go_at_call 142; refine (bool_load _ false _ hL).mono ?_; rintro e w' ⟨rfl, rfl⟩))
  refine H.out.mono ?_
  rintro e W ⟨rfl, m0, m1, g0, g1, hR⟩
  have HR := hid hR
  clear hR
  go_wp2_with fail
  refine leaves_cons (f := 139) (args := #[.pointer (some ⟨b, off, none⟩), .bool true]) (by simp) (by simp [go_sem]) ?_
  refine (store_deferred ⟨b, off, none⟩ (.int .u32 0) .returning _ m0 g0).mono ?_
  rintro e u' w'' ⟨rfl, rfl, rfl⟩
  refine leaves_cons (f := 204) (args := #[.pointer (some ⟨b, off + 1, none⟩)]) (by simp [settle]) (by simp [go_sem]) ?_
  refine (unlock_deferred ⟨b, off + 1, none⟩ _ _ ?_ (by simp [g1])).mono ?_
  · refine (World.cell?_setCell_other _ ⟨b, off, none⟩ ⟨b, off + 1, none⟩ _ (by simp)).trans ?_
    rw [World.cell?_drew]; exact m1
  rintro e u' w'' ⟨rfl, rfl, rfl⟩
  exact ⟨_, results_none rfl _ _ _, rfl, W, HR.out, rfl⟩
theorem do_ret (b off : Nat) (F : FuncId) (cap : Array Value) (w : World) (R : World → Prop) (h0 : w.cell? ⟨b, off, none⟩ = some (.int .u32 0)) (h1 : w.cell? ⟨b, off + 1, none⟩ = some (.int .i32 0))
    (f0 : w.frozen? ⟨b, off, none⟩ = false) (f1 : w.frozen? ⟨b, off + 1, none⟩ = false) (hcf : ∀ w, (callFunc F cap).run Tryz.prog w = .ok (.enter F cap) w)
    (hcall : Calls Tryz.prog F cap (w.setCell ⟨b, off + 1, none⟩ (.int .i32 1)) (Mid b off R)) :
    Calls Tryz.prog 192 #[.pointer (some ⟨b, off, none⟩), .func (.func F) #[] cap] w (Done b off R) := by
  have hn := hnot
  have H := hid (slow_ret b off F cap w R h0 h1 f0 f1 hcf hcall)
  clear hcall
  go_enter Tryz.func192, Tryz.ntmps192
  go_wp2_with (first | (go_at_call 142; refine (bool_load _ false _ h0).mono ?_; rintro e w' ⟨rfl, rfl⟩))
  refine H.out.mono ?_
  rintro e w' ⟨rfl, W, hR, hw⟩
  have HR := hid hR
  have HW := hid hw
  clear hR hw
  go_wp2_with fail
  go_end0
  exact ⟨rfl, W, HR.out, HW.out⟩
end OnceC
namespace Sl
open Go Go.RowKit Hp
def U8 (l : List Int) : List Value := l.map (Value.int .u8)
def Bytes (w : World) (v : Value) (l : List Int) : Prop :=
  (v = .slice none 0 0 ∧ l = []) ∨ ∃ (x : Addr) (cap : Nat), v = .slice (some x) l.length cap ∧ l.length ≤ cap ∧ cap ≤ maxLen ∧ (l = [] ∨ ∃ b off, x = ⟨b, off, none⟩ ∧ b < w.heap.size ∧ ∀ i, i < l.length → w.cell? ⟨b, off + i, none⟩ = some (.int .u8 (l.getD i 0)))
def Own (w : World) (g : Nat) (v : Value) (l : List Int) : Prop :=
  ∃ (cap : Nat) (cur : List Value), v = .slice (some ⟨g, 0, none⟩) l.length cap ∧ Has w g 5 cur ∧ l.length ≤ cap ∧ cap ≤ maxLen ∧ cur.length = cap ∧ cur.take l.length = U8 l
theorem Own.lt {w : World} {g : Nat} {v : Value} {l : List Int} (h : Own w g v l) : g < w.heap.size := by obtain ⟨_, _, _, h, _⟩ := h; exact h.lt
theorem Own.kept {w w' : World} {g : Nat} {v : Value} {l : List Int} {S : List Nat} (h : Own w g v l) (k : Kept S w w') (hg : g ∉ S) : Own w' g v l := by
  obtain ⟨cap, cur, e, h, r⟩ := h; exact ⟨cap, cur, e, k.has h hg, r⟩
theorem Own.bytes {w : World} {g : Nat} {v : Value} {l : List Int} (h : Own w g v l) : Bytes w v l := by
  obtain ⟨cap, cur, e, h, h1, h2, h3, h4⟩ := h
  refine .inr ⟨⟨g, 0, none⟩, cap, e, h1, h2, .inr ⟨g, 0, rfl, h.lt, fun i hi => ?_⟩⟩
  rw [Nat.zero_add]
  refine h.cell i ?_
  have : (cur.take l.length)[i]? = (U8 l)[i]? := by rw [h4]
  rw [List.getElem?_take_of_lt hi] at this
  rw [this]
  simp [U8, List.getElem?_map, List.getElem?_eq_getElem hi]
theorem Bytes.kept {w w' : World} {v : Value} {l : List Int} {S : List Nat} (h : Bytes w v l) (k : Kept S w w') (hs : ∀ b off n c, v = .slice (some ⟨b, off, none⟩) n c → l ≠ [] → b ∉ S) : Bytes w' v l := by
  rcases h with h | ⟨x, cap, e, h1, h2, h3⟩
  · exact .inl h
  · refine .inr ⟨x, cap, e, h1, h2, ?_⟩
    rcases h3 with h3 | ⟨b, off, rfl, h3, h4⟩
    · exact .inl h3
    · by_cases hl : l = []
      · exact .inl hl
      · refine .inr ⟨b, off, rfl, Nat.lt_of_lt_of_le h3 k.size, fun i hi => ?_⟩
        rw [k.cell h3 (hs _ _ _ _ e hl)]
        exact h4 i hi
theorem Bytes.cells {w : World} {x : Addr} {l : List Int} (h3 : l = [] ∨ ∃ b off, x = ⟨b, off, none⟩ ∧ b < w.heap.size ∧ ∀ i, i < l.length → w.cell? ⟨b, off + i, none⟩ = some (.int .u8 (l.getD i 0))) (o : Obj) :
    ∀ j u, (U8 l)[j]? = some u → (w.alloc o).cell? (Addr.add x j) = some u := by
  intro j u hu
  have hj : j < l.length := by
    rcases Nat.lt_or_ge j l.length with h | h
    · exact h
    · rw [List.getElem?_eq_none (by simpa [U8] using h)] at hu; cases hu
  rcases h3 with rfl | ⟨b, off, rfl, hb, h4⟩
  · simp at hj
  rw [Go.WideShapes.add_plain, World.cell?_alloc_lt _ _ _ hb, h4 j hj, ← hu]
  simp [U8, List.getElem?_map, List.getElem?_eq_getElem hj]
theorem own_of_row {w : World} {B g0 : Nat} {v : Value} {l : List Int} (h : w.ownsRow B 5 1 v l.length (U8 l)) (hn : v ≠ .slice none 0 0) : ∃ g, B ≤ g ∧ Own w g v l := by
  obtain ⟨_, h | ⟨g, cap, cur, e, hb, hh, h1, h2, h3, h4⟩⟩ := h
  · exact absurd h.1 hn
  · refine ⟨g, hb, cap, cur.toList, e, ?_, h1, h2, by simpa using h3, by simpa using h4⟩
    unfold Has; rw [hh]
theorem kept_of_grown {w w' : World} {r : Option Nat} {S : List Nat} (h : w.grownBy w' r) (hr : ∀ k, r = some k → k ∈ S) : Kept S w w' :=
  ⟨h.os, h.tape, h.output, h.size, fun k hk hn => h.block k hk (fun e => hn (hr k e.symm))⟩
theorem u8_oneCell (l : List Int) : ∀ u ∈ U8 l, u.oneCell' = true := by
  intro u hu; obtain ⟨n, _, rfl⟩ := List.mem_map.1 hu; rfl
theorem info5 : (Tryz.prog.info? 5).map (fun i => (i.zero, i.size, i.bytes)) = some (some (.int .u8 0), 1, 1) := by kernel_rfl
def Cloned (w : World) (s : Value) (l : List Int) (v : Value) (w' : World) : Prop :=
  (s = .slice none 0 0 ∧ v = .slice none 0 0) ∨ (s ≠ .slice none 0 0 ∧ ∃ g, w.heap.size ≤ g ∧ Own w' g v l)
set_option maxRecDepth 100000 in
theorem clone_call (s : Value) (l : List Int) (w : World) (h : Bytes w s l) (hl : l.length ≤ 140737488351232) :
    Calls Tryz.prog 35 #[s] w fun e w' => ∃ v, e = .returned v ∧ Kept [] w w' ∧ Cloned w s l v w' := by
  rcases h with ⟨rfl, rfl⟩ | ⟨x, cap, rfl, h1, h2, h3⟩
  · have hnil : ∀ W : World, (binOp .eql 36 (.slice none 0 0) (.slice none 0 0)).run Tryz.prog W = .ok (.bool true) W := fun W => Lib.run_eql_slice_nil W 36 _ none 0 0 0 0 Tryz.underlying36
    go_enter Tryz.func35, Tryz.ntmps35
    go_wp2
    go_ret
    exact ⟨_, rfl, Kept.refl _ _, .inl ⟨rfl, rfl⟩⟩
  · have hnil : ∀ W : World, (binOp .eql 36 (.slice (some x) l.length cap) (.slice none 0 0)).run Tryz.prog W = .ok (.bool false) W := fun W => Lib.run_eql_slice_nil W 36 _ (some x) l.length cap 0 0 Tryz.underlying36
    obtain ⟨i0, hi, hz0, hz1, hz2⟩ := info_parts info5
    have hH := Has.new w 5 []
    go_enter Tryz.func35, Tryz.ntmps35
    have hown : (w.alloc (.cells #[] 5)).ownsRow w.heap.size 5 1 (.slice (some ⟨w.heap.size, 0, none⟩) 0 0) 0 [] := by
      refine ⟨rfl, .inr ⟨w.heap.size, 0, #[], rfl, Nat.le_refl _, ?_, Nat.le_refl _, by simp, rfl, rfl⟩⟩
      simpa [Has] using hH
    have hk := (Kept.refl [w.heap.size] w).alloc (.cells #[] 5)
    have hc := Bytes.cells h3 (.cells #[] 5)
    have C := hid hc
    have K := hid hk
    clear hc hk h3 hH
    go_wp2_with (at_builtin; refine wpList_append_own _ rfl _ _ 36 rfl w.heap.size 5 i0 (.int .u8 0) 1 1 Tryz.underlying36 hi hz0 hz1 hz2 rfl (by decide) _ _ _ rfl hown x l.length cap (U8 l) rfl ?c0 ?c1 ?c2 ?c3 ?c4 ?c5 ?_)
    case c0 => simp [U8]
    case c1 => exact C.out
    case c2 => exact u8_oneCell l
    case c3 => unfold maxLen; omega
    case c4 => omega
    case c5 => simp
    intro v' w' hown' hgrow hiff
    have hg := hid hgrow
    have ho := hid hown'
    have hi' := hid hiff
    clear hown hgrow hown' hiff
    go_wp2
    go_ret
    refine ⟨_, rfl, (K.out.trans (kept_of_grown hg.out (by intro k hk; simp [Value.ownBlock] at hk; simp [hk]))).shed (by simp), .inr ⟨by simp, ?_⟩⟩
    have h9 : w'.ownsRow w.heap.size 5 1 v' l.length (U8 l) := by simpa using ho.out
    exact own_of_row (g0 := 0) h9 (fun e => hi'.out e)
theorem run_app (ty : TypeId) (W : World) (src : Value) (l : List Int) (hB : Bytes W src l) (hl : l.length ≤ 140737488351232) :
    ∃ v' w', (Builtin.append_ #[36, 36] ty #[.slice (some ⟨W.heap.size, 0, none⟩) 0 0, src]).run Tryz.prog (W.alloc (.cells #[] 5)) = .ok v' w' ∧ Kept [] W w' ∧ ∃ g, W.heap.size ≤ g ∧ Own w' g v' l := by
  obtain ⟨i0, hi, hz0, hz1, hz2⟩ := info_parts info5
  have hH := Has.new W 5 []
  have hown : (W.alloc (.cells #[] 5)).ownsRow W.heap.size 5 1 (.slice (some ⟨W.heap.size, 0, none⟩) 0 0) 0 [] := by
    refine ⟨rfl, .inr ⟨W.heap.size, 0, #[], rfl, Nat.le_refl _, ?_, Nat.le_refl _, by simp, rfl, rfl⟩⟩
    simpa [Has] using hH
  have hk := (Kept.refl [W.heap.size] W).alloc (.cells #[] 5)
  rcases hB with ⟨rfl, rfl⟩ | ⟨x, cap, rfl, h1, h2, h3⟩
  · have hr := run_append_owned_none (P := Tryz.prog) (w := W.alloc (.cells #[] 5)) W.heap.size 36 ty 5 i0 1 Tryz.underlying36 hi _ _ _ hown
    exact ⟨_, _, hr, (Kept.refl [] W).alloc _, W.heap.size, Nat.le_refl _, 0, [], rfl, hH, Nat.le_refl _, by simp, rfl, rfl⟩
  · obtain ⟨v', w', hr, hown', hgrow, hiff⟩ := run_append_own (P := Tryz.prog) (W.alloc (.cells #[] 5)) W.heap.size 36 ty 5 i0 (.int .u8 0) 1 1 Tryz.underlying36 hi hz0 hz1 hz2 rfl (by decide) _ _ _ hown x l.length cap (U8 l) (by simp [U8]) (Bytes.cells h3 _) (u8_oneCell l) (by unfold maxLen; omega) (by omega) (by simp)
    have h9 : w'.ownsRow W.heap.size 5 1 v' l.length (U8 l) := by simpa using hown'
    refine ⟨v', w', hr, (hk.trans (kept_of_grown hgrow (by intro k hk; simp [Value.ownBlock] at hk; simp [hk]))).shed (by simp), own_of_row (g0 := 0) h9 (fun e => ?_)⟩
    have := (hiff.1 e).1; cases this
theorem wpList_app {ops : Array Oper} {rest : List Oper} {o : Oper} {a : Act} {Q : Exit → Act → World → Prop} (hgd : Region.wanted o (yielded ops a.tmps) = true) (s x : Operand)
    (ho : o.op = .call { callee := .builtin .append, args := #[s, x], argTypes := #[36, 36] }) (W : World) (src : Value) (l : List Int) (k0 : Nat) (hk0 : W.heap.size = k0)
    (hs : a.eval s = .slice (some ⟨k0, 0, none⟩) 0 0) (hx : a.eval x = src) (hB : Bytes W src l) (hl : l.length ≤ 140737488351232)
    (h : ∀ v' w', Kept [] W w' → (∃ g, W.heap.size ≤ g ∧ Own w' g v' l) → wpList Tryz.prog ops Q rest (a.put o.dst v') w') : wpList Tryz.prog ops Q (o :: rest) a (W.alloc (.cells #[] 5)) := by
  subst hk0
  obtain ⟨v', w', hr, k, ho'⟩ := run_app o.type W src l hB hl
  refine wpList_step fun K hK => ?_
  rw [if_pos hgd]
  unfold Oper.wp execOp
  simp only [ho, resolve, invoke, builtin, Sem.run_bind, Sem.run_pure, Result.andThen_ok, List.map_toArray, List.map_cons, List.map_nil, hs, hx, hr]
  exact hK _ _ (h v' w' k ho')
theorem row_of (n : Nat) (p : Nat → Int → Prop) (h : ∀ i, i < n → ∃ x, p i x) : ∃ l : List Int, l.length = n ∧ ∀ i, i < n → p i (l.getD i 0) := by
  induction n with
  | zero => exact ⟨[], rfl, by simp⟩
  | succ n ih =>
    obtain ⟨l, hl, hp⟩ := ih (fun i hi => h i (by omega))
    obtain ⟨x, hx⟩ := h n (by omega)
    refine ⟨l ++ [x], by simp [hl], fun i hi => ?_⟩
    rcases Nat.lt_or_ge i n with hn | hn
    · have := hp i hn
      rw [List.getD_eq_getElem?_getD] at this ⊢
      rw [List.getElem?_append_left (by omega)]
      exact this
    · obtain rfl : i = n := by omega
      rw [List.getD_eq_getElem?_getD, List.getElem?_append_right (by omega)]
      simpa [hl] using hx
theorem bytes_of_fits {w : World} {n : Nat} {a : Option Addr} {len cap : Nat} (h : Go.Proofs.YtinaliblnihpbaaGreat.Fit.Fits Tryz.prog w n 36 [.slice a len cap]) :
    ∃ l : List Int, len = l.length ∧ Bytes w (.slice a len cap) l ∧ l.length ≤ reachBytes ∧ ∀ i, i < l.length → (Lit.int .u8 (l.getD i 0)).wf = true := by
  obtain ⟨h1, h2, h3, h4, h5⟩ := Go.Proofs.YtinaliblnihpbaaGreat.Fit.fits_elems Tryz.underlying36 h 1 1 (by kernel_rfl) (by kernel_rfl) (by decide)
  rcases h5 with rfl | ⟨b, off, rfl, hb, h6⟩
  · refine ⟨[], rfl, ?_, by simp, by simp⟩
    cases n with
    | zero => exact h.elim
    | succ n =>
      have hu := Tryz.underlying36
      unfold Go.Proofs.YtinaliblnihpbaaGreat.Fit.Fits at h
      generalize Tryz.prog.underlying 36 = u at h hu
      subst hu
      obtain ⟨a', len', cap', heq, _, _, _, h7⟩ := h
      obtain ⟨rfl, rfl, rfl⟩ : a = a' ∧ 0 = len' ∧ cap = cap' := by simpa using heq
      rcases h7 with ⟨rfl, _, rfl⟩ | ⟨x, rfl, _⟩
      · exact .inl ⟨rfl, rfl⟩
      · exact .inr ⟨x, cap, rfl, h3, h4, .inl rfl⟩
  · obtain ⟨l, hl, hp⟩ := row_of len (fun i x => w.cell? ⟨b, off + i, none⟩ = some (.int .u8 x) ∧ (Lit.int .u8 x).wf = true) (by
      intro i hi
      obtain ⟨m, cs, hcs, hc, hf⟩ := h6 i hi
      obtain ⟨x, rfl, hw⟩ := Go.Proofs.YtinaliblnihpbaaGreat.Fit.fits_int Tryz.underlying5 hf
      have := hc 0 (by decide)
      rw [Nat.mul_one, Nat.add_zero] at this
      exact ⟨x, by rw [this]; rfl, hw⟩)
    subst hl
    refine ⟨l, rfl, .inr ⟨_, cap, rfl, h3, h4, .inr ⟨b, off, rfl, hb, fun i hi => (hp i hi).1⟩⟩, by omega, fun i hi => (hp i hi).2⟩
end Sl
namespace GateC
open Go Go.RowKit Hp Atom AtomC OnceC
theorem Has.ne {w : World} {b b' : Nat} {T T' : TypeId} {cs cs' : List Value} (h : Has w b T cs) (h' : Has w b' T' cs') (hne : T ≠ T') : b ≠ b' := by
  rintro rfl
  unfold Has at h h'
  rw [h] at h'
  simp at h'
  exact hne h'.2
structure G where
  code : Int
  fallen : Bool
  times : Int
def G.new : G := ⟨0, false, 0⟩
def IsG (w : World) (g o : Nat) (x : G) : Prop :=
  Has w g 239 [.pointer (some ⟨o, 0, none⟩), .int .i64 x.code, .int .i64 x.times] ∧ Has w o 249 [.int .u32 (b32 x.fallen), .int .i32 0, .int .u32 0]
theorem IsG.kept {w w' : World} {g o : Nat} {x : G} {S : List Nat} (h : IsG w g o x) (k : Kept S w w') (hg : g ∉ S) (ho : o ∉ S) : IsG w' g o x := ⟨k.has h.1 hg, k.has h.2 ho⟩
theorem new_call (w : World) : Calls Tryz.prog 113 #[] w fun e w' => e = .returned (.pointer (some ⟨w.heap.size + 1, 0, none⟩)) ∧ Kept [] w w' ∧ IsG w' (w.heap.size + 1) w.heap.size G.new ∧ w.heap.size + 2 ≤ w'.heap.size := by
  go_enter Tryz.func113, Tryz.ntmps113
  go_wp2
  go_ret
  refine ⟨rfl, ((Kept.refl _ _).alloc _).alloc _, ⟨?_, (Has.new w _ _).alloc _⟩, by simp⟩
  have := Has.new (w.alloc (.cells #[.int .u32 0, .int .i32 0, .int .u32 0] 249)) 239 [.pointer (some ⟨w.heap.size, 0, none⟩), .int .i64 0, .int .i64 0]
  rw [World.size_alloc] at this
  exact this
theorem code_call (g o : Nat) (x : G) (w : World) (h : IsG w g o x) : Calls Tryz.prog 110 #[.pointer (some ⟨g, 0, none⟩)] w fun e w' => e = .returned (.int .i64 x.code) ∧ w = w' := by
  have c1 := h.1.cell 1 (v := .int .i64 x.code) rfl
  go_enter Tryz.func110, Tryz.ntmps110
  go_wp2
  go_ret
  exact ⟨rfl, rfl⟩
theorem lift_call (g o : Nat) (x : G) (w : World) (h : IsG w g o x) :
    Calls Tryz.prog 138 #[.pointer (some ⟨g, 0, none⟩)] w fun e w' => e = .returned (.int .i64 x.code) ∧ Kept [g] w w' ∧ IsG w' g w.heap.size G.new := by
  have c0 := h.1.cell 0 (v := .pointer (some ⟨o, 0, none⟩)) rfl
  have c1 := h.1.cell 1 (v := .int .i64 x.code) rfl
  have z0 := h.1.free 0
  have z1 := h.1.free 1
  have hl := h.1.lt
  have hG := ((h.1.set 0 (.pointer (some ⟨w.heap.size, 0, none⟩))).set 1 (.int .i64 0)).alloc (.cells #[.int .u32 0, .int .i32 0, .int .u32 0] 249)
  have hO := Has.new ((w.setCell ⟨g, 0, none⟩ (.pointer (some ⟨w.heap.size, 0, none⟩))).setCell ⟨g, 1, none⟩ (.int .i64 0)) 249 [.int .u32 0, .int .i32 0, .int .u32 0]
  rw [World.size_setCell, World.size_setCell] at hO
  have hk := ((((Kept.refl [g] w).set ⟨g, 0, none⟩ (.pointer (some ⟨w.heap.size, 0, none⟩)) (by simp)).set ⟨g, 1, none⟩ (.int .i64 0) (by simp)).alloc (.cells #[.int .u32 0, .int .i32 0, .int .u32 0] 249))
  have hne : g ≠ w.heap.size := Nat.ne_of_lt hl
  have hG' := hid hG
  have hO' := hid hO
  have hk' := hid hk
  clear hG hO hk h
  go_enter Tryz.func138, Tryz.ntmps138
  go_wp2_with fail
  refine (i64_store _ (.int .i64 x.times) _ _ (hG'.out.cell 2 rfl) (hG'.out.free 2)).mono ?_
  rintro e w' ⟨rfl, rfl⟩
  have hk2 := hk'.out.set ⟨g, 2, none⟩ (.int .i64 0) (by simp)
  have hg2 : IsG _ g w.heap.size G.new := ⟨hG'.out.set 2 (.int .i64 0), hO'.out.set_ne ⟨g, 2, none⟩ (.int .i64 0) (fun e => hne e.symm)⟩
  have hk3 := hid hk2
  have hg3 := hid hg2
  clear hk2 hg2 hG' hO' hk'
  generalize World.setCell _ _ _ = w9 at *
  go_wp2_with fail
  go_ret
  exact ⟨rfl, hk3.out, hg3.out⟩
theorem trip1_call (g pc pg pf : Nat) (c : Int) (u v : Value) (w : World) (hc : Has w pc 29 [.int .i64 c]) (hg : Has w pg 201 [.pointer (some ⟨g, 0, none⟩)]) (hf : Has w pf 4 [u]) {y z : Value} (hG : Has w g 239 [y, v, z]) :
    Calls Tryz.prog 193 #[.pointer (some ⟨pc, 0, none⟩), .pointer (some ⟨pg, 0, none⟩), .pointer (some ⟨pf, 0, none⟩)] w fun e w' => e = .returned (.tuple #[]) ∧ w' = (w.setCell ⟨g, 1, none⟩ (.int .i64 c)).setCell ⟨pf, 0, none⟩ (.bool true) := by
  have c0 := hc.cell 0 (v := .int .i64 c) rfl
  have g0 := hg.cell 0 (v := .pointer (some ⟨g, 0, none⟩)) rfl
  have f0 := hf.cell 0 (v := u) rfl
  have G1 := hG.cell 1 (v := v) rfl
  have zf := hf.free 0
  have zG := hG.free 1
  have hne : g ≠ pf := Has.ne hG hf (by decide)
  have hpf : (w.setCell ⟨g, 1, none⟩ (.int .i64 c)).cell? ⟨pf, 0, none⟩ = some u := ((hf.set_ne ⟨g, 1, none⟩ _ (fun e => hne e.symm)).cell 0 rfl)
  go_enter Tryz.func193, Tryz.ntmps193
  go_wp2_with fail
  go_end0
  exact ⟨rfl, rfl⟩
def G.trip (x : G) (c : Int) : G := if x.fallen then { x with times := wrap64 (x.times + 1) } else ⟨c, true, wrap64 (x.times + 1)⟩
set_option maxRecDepth 100000 in
set_option maxHeartbeats 1600000 in
theorem trip_call (g o : Nat) (x : G) (c : Int) (w : World) (h : IsG w g o x) (hc : c ≠ 0) :
    Calls Tryz.prog 170 #[.pointer (some ⟨g, 0, none⟩), .int .i64 c] w fun e w' => e = .returned (.bool (!x.fallen)) ∧ Kept [g, o] w w' ∧ IsG w' g o (x.trip c) := by
  have hc0 : (c == 0) = false := by simpa using hc
  have hgl := h.1.lt
  have hol := h.2.lt
  have hp := Has.new w 201 [.pointer (some ⟨g, 0, none⟩)]
  have hcc := Has.new (w.alloc (.cells #[.pointer (some ⟨g, 0, none⟩)] 201)) 29 [.int .i64 c]
  rw [World.size_alloc] at hcc
  have hk : Kept [g, o] w ((w.alloc (.cells #[.pointer (some ⟨g, 0, none⟩)] 201)).alloc (.cells #[.int .i64 c] 29)) := ((Kept.refl _ _).alloc _).alloc _
  have hp' := hp.alloc (.cells #[.int .i64 c] 29)
  have hg' := (h.1.alloc (.cells #[.pointer (some ⟨g, 0, none⟩)] 201)).alloc (.cells #[.int .i64 c] 29)
  have ho' := (h.2.alloc (.cells #[.pointer (some ⟨g, 0, none⟩)] 201)).alloc (.cells #[.int .i64 c] 29)
  have hsz : w.heap.size + 2 = ((w.alloc (.cells #[.pointer (some ⟨g, 0, none⟩)] 201)).alloc (.cells #[.int .i64 c] 29)).heap.size := by simp
  clear hp h hc
  go_enter Tryz.func170, Tryz.ntmps170
  go_upto_region 1 with (fail)
  generalize ((w.alloc (.cells #[.pointer (some ⟨g, 0, none⟩)] 201)).alloc (.cells #[.int .i64 c] 29)) = w1 at *
  generalize w.heap.size = p at *
  have p0 := hp'.cell 0 (v := .pointer (some ⟨g, 0, none⟩)) rfl
  have q0 := hcc.cell 0 (v := .int .i64 c) rfl
  have hmf : ∀ (fn : Fn) (first cap : Array Value) (w : World), (Instr.makeFunc fn first cap).run Tryz.prog w = .ok (.func fn first cap) w := fun _ _ _ _ => rfl
  have g0 := hg'.cell 0 (v := .pointer (some ⟨o, 0, none⟩)) rfl
  have hgo : g ≠ o := Has.ne hg' ho' (by decide)
  have hl1 := hg'.lt
  have hlp := hp'.lt
  have hlc := hcc.lt
  have hne1 : g ≠ p := by omega
  have hne2 : g ≠ p + 1 := by omega
  go_wp2_with fail
  refine (i64_add _ x.times 1 _ (hg'.cell 2 rfl) (hg'.free 2)).mono ?_
  rintro e w' ⟨rfl, rfl⟩
  go_wp2_with fail
  have hr : g ≠ w1.heap.size := Nat.ne_of_lt hl1
  have hro : o ≠ w1.heap.size := Nat.ne_of_lt ho'.lt
  have hW : Has ((w1.setCell ⟨g, 2, none⟩ (.int .i64 (wrap64 (x.times + 1)))).alloc (.cells #[.bool false] 4)) w1.heap.size 4 [.bool false] := by
    have := Has.new (w1.setCell ⟨g, 2, none⟩ (.int .i64 (wrap64 (x.times + 1)))) 4 [.bool false]
    rw [World.size_setCell] at this
    exact this
  have hG2 := (hg'.set 2 (.int .i64 (wrap64 (x.times + 1)))).alloc (.cells #[.bool false] 4)
  have hO2 := (ho'.set_ne ⟨g, 2, none⟩ (.int .i64 (wrap64 (x.times + 1))) (fun e => hgo e.symm)).alloc (.cells #[.bool false] 4)
  have hP2 := (hp'.set_ne ⟨g, 2, none⟩ (.int .i64 (wrap64 (x.times + 1))) (fun e => hne1 e.symm)).alloc (.cells #[.bool false] 4)
  have hC2 := (hcc.set_ne ⟨g, 2, none⟩ (.int .i64 (wrap64 (x.times + 1))) (fun e => hne2 e.symm)).alloc (.cells #[.bool false] 4)
  have hk2 := (hk.set ⟨g, 2, none⟩ (.int .i64 (wrap64 (x.times + 1))) (by simp)).alloc (.cells #[.bool false] 4)
  have hrw : w.heap.size ≤ w1.heap.size := hk.size
  clear hk hp' hcc hg' ho' p0 q0 g0 hmf hl1 hlp hlc
  generalize ((w1.setCell ⟨g, 2, none⟩ (.int .i64 (wrap64 (x.times + 1)))).alloc (.cells #[.bool false] 4)) = W at *
  generalize w1.heap.size = r at *
  have hgc : g ≠ p + 1 := hne2
  have hk3 := hid hk2
  clear hk2
  cases hx : x.fallen with
  | true =>
    rw [hx] at hO2
    have e : x.trip c = { x with times := wrap64 (x.times + 1) } := by simp [G.trip, hx]
    have E := hid e
    have X := hid hx
    clear e hx
    refine (do_done ⟨o, 0, none⟩ _ _ (hO2.cell 0 rfl)).mono ?_
    rintro e w' ⟨rfl, rfl⟩
    have f0 := hW.cell 0 (v := .bool false) rfl
    go_wp2_with fail
    go_ret
    refine ⟨by rw [X.out]; rfl, hk3.out, ?_⟩
    rw [E.out]
    exact ⟨hG2, by rw [X.out]; exact hO2⟩
  | false =>
    rw [hx] at hO2
    have e : x.trip c = ⟨c, true, wrap64 (x.times + 1)⟩ := by simp [G.trip, hx]
    have E := hid e
    have X := hid hx
    clear e hx
    have hcf : ∀ w, (callFunc 193 #[.pointer (some ⟨p + 1, 0, none⟩), .pointer (some ⟨p, 0, none⟩), .pointer (some ⟨r, 0, none⟩)]).run Tryz.prog w = .ok (.enter 193 #[.pointer (some ⟨p + 1, 0, none⟩), .pointer (some ⟨p, 0, none⟩), .pointer (some ⟨r, 0, none⟩)]) w := by
      intro w; simp [callFunc, Tryz.func193, go_sem]; rfl
    have hop : o ≠ p := Has.ne hO2 hP2 (by decide)
    have hoc : o ≠ p + 1 := Has.ne hO2 hC2 (by decide)
    have hO3 := hO2.set 1 (.int .i32 1)
    have hG3 := hG2.set_ne ⟨o, 1, none⟩ (.int .i32 1) hgo
    have hP3 := hP2.set_ne ⟨o, 1, none⟩ (.int .i32 1) (fun e => hop e.symm)
    have hC3 := hC2.set_ne ⟨o, 1, none⟩ (.int .i32 1) (fun e => hoc e.symm)
    have hF3 := hW.set_ne ⟨o, 1, none⟩ (.int .i32 1) (fun e => hro e.symm)
    have hO4 := (hO3.set_ne ⟨g, 1, none⟩ (.int .i64 c) (fun e => hgo e.symm)).set_ne ⟨r, 0, none⟩ (.bool true) hro
    have hG4 := (hG3.set 1 (.int .i64 c)).set_ne ⟨r, 0, none⟩ (.bool true) hr
    have hF4 := (hF3.set_ne ⟨g, 1, none⟩ (.int .i64 c) (fun e => hr e.symm)).set 0 (.bool true)
    have hk4 := (((hk3.out.set ⟨o, 1, none⟩ (.int .i32 1) (by simp)).set ⟨g, 1, none⟩ (.int .i64 c) (by simp)).set ⟨r, 0, none⟩ (.bool true) (fun h => by simp at h; omega))
    refine (do_ret o 0 193 _ W (fun W' => W' = ((W.setCell ⟨o, 1, none⟩ (.int .i32 1)).setCell ⟨g, 1, none⟩ (.int .i64 c)).setCell ⟨r, 0, none⟩ (.bool true)) (hO2.cell 0 rfl) (hO2.cell 1 rfl) (hO2.free 0) (hO2.free 1) hcf ?_).mono ?_
    · refine (trip1_call g (p + 1) p r c _ _ _ hC3 hP3 hF3 hG3).mono ?_
      rintro e w' ⟨rfl, rfl⟩
      exact ⟨rfl, hO4.cell 0 rfl, hO4.cell 1 rfl, hO4.free 0, hO4.free 1, rfl⟩
    rintro e w' ⟨rfl, W', rfl, hw'⟩
    have hO5 := (hO4.drew.set 0 (.int .u32 1)).set 1 (.int .i32 0)
    have hG5 := ((hG4.drew.set_ne ⟨o, 0, none⟩ (.int .u32 1) hgo).set_ne ⟨o, 1, none⟩ (.int .i32 0) hgo)
    have hF5 := ((hF4.drew.set_ne ⟨o, 0, none⟩ (.int .u32 1) (fun e => hro e.symm)).set_ne ⟨o, 1, none⟩ (.int .i32 0) (fun e => hro e.symm))
    have hk5 := ((hk4.drew.set ⟨o, 0, none⟩ (.int .u32 1) (by simp)).set ⟨o, 1, none⟩ (.int .i32 0) (by simp))
    rw [← hw'] at hO5 hG5 hF5 hk5
    have hk6 := hid hk5
    clear hw' hk5 hk4 hO4 hG4 hF4 hO3 hG3 hP3 hC3 hF3 hcf
    have f0 := hF5.cell 0 (v := .bool true) rfl
    go_wp2_with fail
    go_ret
    refine ⟨by rw [X.out]; rfl, hk6.out, ?_⟩
    rw [E.out]
    exact ⟨hG5, hO5⟩
end GateC
namespace Ow
open Go Hp Sl
def Opn (G : Nat → Prop) (w : World) : Prop := ∀ b, w.heap.size ≤ b → G b
def KG (G : Nat → Prop) (w w' : World) : Prop := ∃ S : List Nat, (∀ k, k ∈ S → G k) ∧ Kept S w w'
variable {G G' : Nat → Prop} {w w' w'' : World}
theorem KG.of {S : List Nat} (k : Kept S w w') (h : ∀ b, b ∈ S → G b) : KG G w w' := ⟨S, h, k⟩
theorem KG.nil (k : Kept [] w w') : KG G w w' := ⟨[], by simp, k⟩
theorem KG.one {b : Nat} (k : Kept [b] w w') (h : G b) : KG G w w' := ⟨[b], by simp; exact h, k⟩
theorem KG.refl : KG G w w := .nil (Kept.refl _ _)
theorem KG.trans (h : KG G w w') (k : KG G w' w'') : KG G w w'' := by
  obtain ⟨S, h1, h2⟩ := h; obtain ⟨T, k1, k2⟩ := k
  exact ⟨S ++ T, fun b hb => (List.mem_append.1 hb).elim (h1 b) (k1 b), (h2.mono (by intro k hk; simp [hk])).trans (k2.mono (by intro k hk; simp [hk]))⟩
theorem KG.size (h : KG G w w') : w.heap.size ≤ w'.heap.size := by obtain ⟨_, _, k⟩ := h; exact k.size
theorem KG.set {b i : Nat} {v : Value} (h : KG G w w') (hb : G b) : KG G w (w'.setCell ⟨b, i, none⟩ v) := h.trans (.one ((Kept.refl [b] w').set ⟨b, i, none⟩ v (by simp)) hb)
theorem KG.alloc (h : KG G w w') (o : Obj) : KG G w (w'.alloc o) := h.trans (.nil ((Kept.refl [] w').alloc o))
theorem KG.drew (h : KG G w w') : KG G w w'.drew := h.trans (.nil (Kept.refl [] w').drew)
theorem KG.drewN (h : KG G w w') (n : Nat) : KG G w (w'.drewN n) := h.trans (.nil ((Kept.refl [] w').drewN n))
theorem Opn.step (h : Opn G w) (k : w.heap.size ≤ w'.heap.size) : Opn G w' := fun b hb => h b (Nat.le_trans k hb)
theorem Opn.kg (h : Opn G w) (k : KG G' w w') : Opn G w' := h.step k.size
theorem KG.shed (h : KG G w w') (hG : ∀ b, b < w.heap.size → G b → G' b) : KG G' w w' := by
  obtain ⟨S, h1, h2⟩ := h
  classical
  exact ⟨S.filter (fun k => decide (k < w.heap.size)), fun k hk => by
    obtain ⟨a, b⟩ := List.mem_filter.1 hk; exact hG k (by simpa using b) (h1 k a), h2.shed (fun k hk hl => List.mem_filter.2 ⟨hk, by simpa using hl⟩)⟩
theorem KG.has {b : Nat} {T : TypeId} {cs : List Value} (k : KG G w w') (h : Has w b T cs) (hn : ¬ G b) : Has w' b T cs := by
  obtain ⟨S, h1, h2⟩ := k; exact h2.has h (fun e => hn (h1 _ e))
theorem KG.bytes {v : Value} {l : List Int} (k : KG G w w') (h : Bytes w v l) (hn : ∀ b off n c, v = .slice (some ⟨b, off, none⟩) n c → l ≠ [] → ¬ G b) : Bytes w' v l := by
  obtain ⟨S, h1, h2⟩ := k; exact h.kept h2 (fun b off n c e hl hm => hn b off n c e hl (h1 _ hm))
theorem Has.ne {w : World} {b b' : Nat} {T T' : TypeId} {cs cs' : List Value} (h : Has w b T cs) (h' : Has w b' T' cs') (hne : T ≠ T') : b ≠ b' := by
  rintro rfl
  unfold Has at h h'
  rw [h] at h'
  simp at h'
  exact hne h'.2
end Ow
end Go.Proofs.YtinaliblnihpbaaGreat
