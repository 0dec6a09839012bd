/- The row of the law UnitBursts: opened to numbers, closed again. -/
import Derived.Test.YtlafkeijikbenacRows
import Derived.Test.YtlafkeijikbenacPureUnitBursts
import Derived.WalkKit
import Derived.ProofKit
import Derived.OpenShut
import Derived.ShutString
import Derived.ChangeOld
import Derived.Below
import Derived.SizedLaws
import Derived.Lib.SmallJoins
import Derived.Test.YtlafkeijikbenacWSized
import Derived.Test.YtlafkeijikbenacAgg
namespace Go.Proofs.Ytlafkeijikbenac.unitBursts
open Go.ChangeShapes Go.WideShapes Go.ChangeAt Go.RowKit
open Go.ChangeMaps (open_string shut_string)
set_option linter.unusedVariables false
set_option linter.unusedSimpArgs false
theorem own : ownKnob Try.prog.godebug = none := by kernel_rfl
theorem laidOut : laidOutB Try.prog = true := by kernel_rfl
def IsRow (k : IntKind) (w : World) (a : Option Addr) (len cap : Nat) (zs : List Int) : Prop :=
  (a = none ∧ len = 0 ∧ cap = 0 ∧ zs = []) ∨
  ∃ x, a = some x ∧ len ≤ cap ∧ cap ≤ maxLen ∧ zs.length = cap ∧ (∀ i, i < zs.length → w.cell? (x.add i) = some (.int k (zs.getD i 0))) ∧ ∀ n ∈ zs, (Lit.int k n).wf = true
set_option maxRecDepth 100000 in
theorem lifted (os : Os) (started : os.Started) (H : Type) (enc : TypeId × Value → H) :
    ReturnsInHanded {} Try.checked os 6 .any (Rows.unitBurstsSpec.pre6 enc Try.prog Try.f6 Rows.unitBurstsRow.domain false) (Rows.unitBurstsSpec.post enc Try.prog Try.f6 false true false false) := by
  refine returnsInHanded_of_change_sized (C := Try.checked) own started (by kernel_rfl) Try.func6
    (ChangeSpec.witness6 (enc := enc) (C := Try.checked) false ⟨#[], #[.agg #[.int .i64 0, .int .u32 0, .int .u32 0, .int .u32 0, .int .i64 0, .slice none 0 0], .int .i64 0, .int .u32 0, .slice none 0 0], []⟩ 8 (by kernel_rfl) (by kernel_rfl) (by kernel_rfl) (by kernel_rfl)) ?_
  intro W base args ds gs before hval0 hW hcnd hsz0 _
  have hsz : (DataW.weightsEach Try.prog (Try.f6.params.toList ++ Rows.unitBurstsSpec.plain.varTypes Try.prog) (ds ++ gs)).all (· ≤ reachBytes) = true := hsz0
  have hval : ∀ (j : Nat) t v, Try.f6.params[j]? = some t → args[j]? = some v → Value.okWide Try.prog W .any base t v := hval0
  have hW' := hW
  obtain ⟨p, q, hA0, hV, rfl, hfz, hnd⟩ := hW
  have hA : DataW.TrodAll enc Try.prog W 0 (fun _ => true) true Try.f6.params.toList args.toList ds p := hA0
  rw [Try.params6] at hA hval hsz
  obtain ⟨v0, vs0, d0, ds0, p0, q0, hargs, rfl, rfl, h0, r0⟩ := trodAll_cons hA
  obtain ⟨v1, vs1, d1, ds1, p1, q1, rfl, rfl, rfl, h1, r1⟩ := trodAll_cons r0
  obtain ⟨v2, vs2, d2, ds2, p2, q2, rfl, rfl, rfl, h2, r2⟩ := trodAll_cons r1
  obtain ⟨v3, vs3, d3, ds3, p3, q3, rfl, rfl, rfl, h3, r3⟩ := trodAll_cons r2
  obtain ⟨rfl, rfl, rfl⟩ := trodAll_nil r3
  obtain rfl : args = #[v0, v1, v2, v3] := by cases args; simp_all
  obtain ⟨rfl, rfl⟩ := trodVars_none hV
  have k0 := h0
  have lt0 : ∀ x ∈ p0, x.block < W.heap.size := by obtain ⟨m, hm⟩ := k0; exact DataW.trod_lt m _ _ _ hm
  obtain ⟨cs0, n0, rfl, hcs0, hf0⟩ := Go.Proofs.Ytlafkeijikbenac.Agg.open_agg Try.underlying29 (by kernel_rfl) (by kernel_rfl) (hval 0 29 v0 rfl rfl) h0
  obtain ⟨cl0⟩ := cs0
  obtain ⟨u0_0, y0_0, e0_0, t0_0⟩ := hf0 0 _ rfl
  obtain ⟨a0_0, g0_0, _, w0_0⟩ := DataW.trod_int Try.underlying26 t0_0
  obtain rfl : u0_0 = .int .i64 a0_0 := by simpa using g0_0
  obtain ⟨u0_1, y0_1, e0_1, t0_1⟩ := hf0 1 _ rfl
  obtain ⟨a0_1, g0_1, _, w0_1⟩ := DataW.trod_int Try.underlying27 t0_1
  obtain rfl : u0_1 = .int .u32 a0_1 := by simpa using g0_1
  obtain ⟨u0_2, y0_2, e0_2, t0_2⟩ := hf0 2 _ rfl
  obtain ⟨a0_2, g0_2, _, w0_2⟩ := DataW.trod_int Try.underlying27 t0_2
  obtain rfl : u0_2 = .int .u32 a0_2 := by simpa using g0_2
  obtain ⟨u0_3, y0_3, e0_3, t0_3⟩ := hf0 3 _ rfl
  obtain ⟨a0_3, g0_3, _, w0_3⟩ := DataW.trod_int Try.underlying27 t0_3
  obtain rfl : u0_3 = .int .u32 a0_3 := by simpa using g0_3
  obtain ⟨u0_4, y0_4, e0_4, t0_4⟩ := hf0 4 _ rfl
  obtain ⟨a0_4, g0_4, _, w0_4⟩ := DataW.trod_int Try.underlying3 t0_4
  obtain rfl : u0_4 = .int .i64 a0_4 := by simpa using g0_4
  obtain ⟨u0_5, y0_5, e0_5, t0_5⟩ := hf0 5 _ rfl
  obtain ⟨a0_5, len0_5, cap0_5, g0_5⟩ := Go.Proofs.Ytlafkeijikbenac.Agg.slice_of Try.underlying22 t0_5
  obtain rfl : u0_5 = .slice a0_5 len0_5 cap0_5 := g0_5
  obtain ⟨z0_5, w0_5⟩ : ∃ zs, IsRow .u8 W a0_5 len0_5 cap0_5 zs := by
    rcases open_ints Try.underlying22 Try.underlying5 (by kernel_rfl) t0_5 with ⟨hcs, _⟩ | ⟨x, l, c, zs, hcs, _, hl, hm, hz, _, hcell, hwz⟩
    · simp [Value.cells] at hcs
      obtain ⟨rfl, rfl, rfl⟩ := hcs
      exact ⟨[], .inl ⟨rfl, rfl, rfl, rfl⟩⟩
    · simp [Value.cells] at hcs
      obtain ⟨rfl, rfl, rfl⟩ := hcs
      exact ⟨zs, .inr ⟨_, rfl, hl, hm, by simpa using hz, hcell, hwz⟩⟩
  obtain rfl : cl0 = [.int .i64 a0_0, .int .u32 a0_1, .int .u32 a0_2, .int .u32 a0_3, .int .i64 a0_4, .slice a0_5 len0_5 cap0_5] := by
    apply List.ext_getElem?
    intro j
    match j with
    | 0 => simpa using e0_0
    | 1 => simpa using e0_1
    | 2 => simpa using e0_2
    | 3 => simpa using e0_3
    | 4 => simpa using e0_4
    | 5 => simpa using e0_5
    | j + 6 => rw [List.getElem?_eq_none (by have h5_ : cl0.length = 6 := (by simpa using hcs0); omega), List.getElem?_eq_none (by simp)]
  obtain ⟨a1, rfl, rfl, rfl, w1⟩ := open_int Try.underlying3 (hval 1 3 v1 rfl rfl) h1
  obtain ⟨a2, rfl, rfl, rfl, w2⟩ := open_int Try.underlying27 (hval 2 27 v2 rfl rfl) h2
  have k3 := h3
  have lt3 : ∀ x ∈ p3, x.block < W.heap.size := by obtain ⟨m, hm⟩ := k3; exact DataW.trod_lt m _ _ _ hm
  obtain ⟨a3, len3, cap3, rfl⟩ := okWide_slice Try.underlying42 (hval 3 42 v3 rfl rfl)
  obtain ⟨fuel3, hf3⟩ := id h3
  obtain ⟨z3, w3⟩ : ∃ zs, IsRow .i64 W a3 len3 cap3 zs := by
    rcases open_ints Try.underlying42 Try.underlying3 (by kernel_rfl) hf3 with ⟨hcs, _⟩ | ⟨x, l, c, zs, hcs, _, hl, hm, hz, _, hcell, hwz⟩
    · simp [Value.cells] at hcs
      obtain ⟨rfl, rfl, rfl⟩ := hcs
      exact ⟨[], .inl ⟨rfl, rfl, rfl, rfl⟩⟩
    · simp [Value.cells] at hcs
      obtain ⟨rfl, rfl, rfl⟩ := hcs
      exact ⟨zs, .inr ⟨_, rfl, hl, hm, by simpa using hz, hcell, hwz⟩⟩
  have y3 : len3 * 8 ≤ 140737488351232 := Go.Proofs.YtlafkeijikbenacW.PrintWords.sized_ints hsz (j := 3) (t := 42) rfl rfl Try.underlying42 Try.underlying3 (by kernel_rfl) (by kernel_rfl) h3
  clear hA0 hval0 hsz0 hsz
  refine (Pure.UnitBursts_walk a0_0 a0_1 a0_2 a0_3 a0_4 a0_5 len0_5 cap0_5 z0_5 a1 a2 a3 len3 cap3 z3 W w0_0 w0_1 w0_2 w0_3 w0_4 w0_5 w1 w2 w3 y3).mono fun e W' ⟨he, bel⟩ => ?_
  subst he
  exact ⟨_, rfl, _, _, _, [], _, [], hW', trodAll_mk1 (shut_bool Try.underlying4 _), (trodAll_cons_mk (Below.trod laidOut (by kernel_rfl) (of_decide_eq_true (by kernel_rfl)) k0 bel lt0) (trodAll_cons_mk (shut_int Try.underlying3 w1) (trodAll_cons_mk (shut_int Try.underlying27 w2) (trodAll_cons_mk (Below.trod laidOut (by kernel_rfl) (of_decide_eq_true (by kernel_rfl)) k3 bel lt3) trodAll_mk0)))), rfl, bel.frame _, fun h => by cases h⟩
theorem over : Rows.unitBurstsRow.holds Try.pinned (OpenSpec.ofChange Rows.unitBurstsSpec) :=
  OpenClaim.holds_of_wide 6 Try.f6 rfl rfl rfl rfl rfl rfl rfl ⟨rfl, rfl, rfl, rfl, rfl⟩ rfl rfl rfl rfl rfl (by kernel_rfl) Try.func6 (by kernel_rfl)
    (of_decide_eq_true (by kernel_rfl)) (by unfold Func.isWrapper; first | (rw [if_pos (by decide +kernel)]; kernel_rfl) | (rw [if_neg (by decide +kernel)]; exact ⟨rfl, rfl⟩))
    (fun os started H enc _ => lifted os started H enc)
theorem proved : Rows.UnitBurstsSaid := over
#print axioms proved
end Go.Proofs.Ytlafkeijikbenac.unitBursts
namespace Go.Proofs.Ytlafkeijikbenac
/-- The row, under a short name, for the claim. -/
theorem unitBursts_holds : Rows.UnitBurstsSaid := unitBursts.proved
end Go.Proofs.Ytlafkeijikbenac
