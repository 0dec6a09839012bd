/-
  No cell of these rows narrows 'for every input' (looked for: loops, veiled, ifaces, maps, wideKeys, modest, calm, conditions, laid).
  DERIVED. THE GIVEN ROWS OF THIS SEAT. 9 by the template 'for every input the law returns true; each argument reads behind the call as it read before'; 0 by the template 'total and deterministic' (their statements: YtcnlomknmhgpbacTotals.lean).
  GIVEN WITH THE SEED: the statements are not yours to turn. If you find one false, say at which input.
  Laid BY PROGRAM, IN A SANDBOX (cutbox-rows.mjs): the forced cells as the released guide's own fill.sh prints them over the translation 09e47c87629d20b7… (all of the seat's roots in one cut). By AI agents, Wed Nov 11 2026. No macro, syntax, notation, axiom, sorry.
-/
import Derived.Test.YtcnlomknmhgpbacChecked
import GoSem.Claim
import GoSem.ClaimJoined
import GoSem.ClaimMapViews
import Derived.JoinedTies
import Derived.KernelRfl
namespace Go.Proofs.Ytcnlomknmhgpbac
/- THE CELL 'sum', in the pinned program and in every row, IS THE sha256 OF THE DUMP (.gsa) THAT YtcnlomknmhgpbacProg.lean LOADS. Nothing in Lean hashes anything: it is a label: what it is worth is what the hold of that sum in a sandbox is worth. -/
noncomputable def Try.pinned : Pinned := { name := "ytcnlomknmhgpbac", sum := "09e47c87629d20b72e06980bf7494f95ee87ea43453cde1ac62c885116839379", checked := Try.checked }
namespace Rows
def none {H : Type} : Left H := { results := [], args := [] }

/-- 'parapetlaw01.PolyDivides': WHATEVER THE INPUT: true; the input reads as it did. -/
def polyDividesSpec : ChangeSpec := { name := "polyDivides", fn := fun _ => fun
  | [d1, d2] => { results := [.lit (.bool true)], args := [d1, d2] }
  | _ => none }
def polyDividesRow : OpenClaim := { program := "ytcnlomknmhgpbac", sum := "09e47c87629d20b72e06980bf7494f95ee87ea43453cde1ac62c885116839379", func := "parapet/parapetlaw01.PolyDivides", spec := "polyDivides", apart := false }
def PolyDividesSaid : Prop := polyDividesRow.holds Try.pinned (OpenSpec.ofChange polyDividesSpec)

/-- ITS FALSE NEIGHBOUR: 'it returns false'. Refute it at one input. -/
def polyDividesWrong : ChangeSpec := { name := "polyDivides", fn := fun _ => fun
  | [d1, d2] => { results := [.lit (.bool false)], args := [d1, d2] }
  | _ => none }
def PolyDividesWrongFalsely : Prop := polyDividesRow.holds Try.pinned (OpenSpec.ofChange polyDividesWrong)

/-- 'parapetlaw01.PolyRest': WHATEVER THE INPUT: true; the input reads as it did. -/
def polyRestSpec : ChangeSpec := { name := "polyRest", fn := fun _ => fun
  | [d1, d2] => { results := [.lit (.bool true)], args := [d1, d2] }
  | _ => none }
def polyRestRow : OpenClaim := { program := "ytcnlomknmhgpbac", sum := "09e47c87629d20b72e06980bf7494f95ee87ea43453cde1ac62c885116839379", func := "parapet/parapetlaw01.PolyRest", spec := "polyRest", apart := false }
def PolyRestSaid : Prop := polyRestRow.holds Try.pinned (OpenSpec.ofChange polyRestSpec)

/-- ITS FALSE NEIGHBOUR: 'it returns false'. Refute it at one input. -/
def polyRestWrong : ChangeSpec := { name := "polyRest", fn := fun _ => fun
  | [d1, d2] => { results := [.lit (.bool false)], args := [d1, d2] }
  | _ => none }
def PolyRestWrongFalsely : Prop := polyRestRow.holds Try.pinned (OpenSpec.ofChange polyRestWrong)

/-- 'parapetlaw01.PolyGcd': WHATEVER THE INPUT: true; the input reads as it did. -/
def polyGcdSpec : ChangeSpec := { name := "polyGcd", fn := fun _ => fun
  | [d1, d2, d3] => { results := [.lit (.bool true)], args := [d1, d2, d3] }
  | _ => none }
def polyGcdRow : OpenClaim := { program := "ytcnlomknmhgpbac", sum := "09e47c87629d20b72e06980bf7494f95ee87ea43453cde1ac62c885116839379", func := "parapet/parapetlaw01.PolyGcd", spec := "polyGcd", recurses := true, apart := false }
def PolyGcdSaid : Prop := polyGcdRow.holds Try.pinned (OpenSpec.ofChange polyGcdSpec)

/-- ITS FALSE NEIGHBOUR: 'it returns false'. Refute it at one input. -/
def polyGcdWrong : ChangeSpec := { name := "polyGcd", fn := fun _ => fun
  | [d1, d2, d3] => { results := [.lit (.bool false)], args := [d1, d2, d3] }
  | _ => none }
def PolyGcdWrongFalsely : Prop := polyGcdRow.holds Try.pinned (OpenSpec.ofChange polyGcdWrong)

/-- 'parapetlaw01.PolyRing': WHATEVER THE INPUT: true; the input reads as it did. -/
def polyRingSpec : ChangeSpec := { name := "polyRing", fn := fun _ => fun
  | [d1, d2, d3, d4] => { results := [.lit (.bool true)], args := [d1, d2, d3, d4] }
  | _ => none }
def polyRingRow : OpenClaim := { program := "ytcnlomknmhgpbac", sum := "09e47c87629d20b72e06980bf7494f95ee87ea43453cde1ac62c885116839379", func := "parapet/parapetlaw01.PolyRing", spec := "polyRing", apart := false }
def PolyRingSaid : Prop := polyRingRow.holds Try.pinned (OpenSpec.ofChange polyRingSpec)

/-- ITS FALSE NEIGHBOUR: 'it returns false'. Refute it at one input. -/
def polyRingWrong : ChangeSpec := { name := "polyRing", fn := fun _ => fun
  | [d1, d2, d3, d4] => { results := [.lit (.bool false)], args := [d1, d2, d3, d4] }
  | _ => none }
def PolyRingWrongFalsely : Prop := polyRingRow.holds Try.pinned (OpenSpec.ofChange polyRingWrong)

/-- 'parapetlaw01.PolyMods': WHATEVER THE INPUT: true; the input reads as it did. -/
def polyModsSpec : ChangeSpec := { name := "polyMods", fn := fun _ => fun
  | [d1, d2, d3] => { results := [.lit (.bool true)], args := [d1, d2, d3] }
  | _ => none }
def polyModsRow : OpenClaim := { program := "ytcnlomknmhgpbac", sum := "09e47c87629d20b72e06980bf7494f95ee87ea43453cde1ac62c885116839379", func := "parapet/parapetlaw01.PolyMods", spec := "polyMods", recurses := true, apart := false }
def PolyModsSaid : Prop := polyModsRow.holds Try.pinned (OpenSpec.ofChange polyModsSpec)

/-- ITS FALSE NEIGHBOUR: 'it returns false'. Refute it at one input. -/
def polyModsWrong : ChangeSpec := { name := "polyMods", fn := fun _ => fun
  | [d1, d2, d3] => { results := [.lit (.bool false)], args := [d1, d2, d3] }
  | _ => none }
def PolyModsWrongFalsely : Prop := polyModsRow.holds Try.pinned (OpenSpec.ofChange polyModsWrong)

/-- 'parapetlaw01.PolyPowers': WHATEVER THE INPUT: true; the input reads as it did. -/
def polyPowersSpec : ChangeSpec := { name := "polyPowers", fn := fun _ => fun
  | [d1, d2, d3] => { results := [.lit (.bool true)], args := [d1, d2, d3] }
  | _ => none }
def polyPowersRow : OpenClaim := { program := "ytcnlomknmhgpbac", sum := "09e47c87629d20b72e06980bf7494f95ee87ea43453cde1ac62c885116839379", func := "parapet/parapetlaw01.PolyPowers", spec := "polyPowers", apart := false }
def PolyPowersSaid : Prop := polyPowersRow.holds Try.pinned (OpenSpec.ofChange polyPowersSpec)

/-- ITS FALSE NEIGHBOUR: 'it returns false'. Refute it at one input. -/
def polyPowersWrong : ChangeSpec := { name := "polyPowers", fn := fun _ => fun
  | [d1, d2, d3] => { results := [.lit (.bool false)], args := [d1, d2, d3] }
  | _ => none }
def PolyPowersWrongFalsely : Prop := polyPowersRow.holds Try.pinned (OpenSpec.ofChange polyPowersWrong)

/-- 'parapetlaw01.PolyBytes': WHATEVER THE INPUT: true; the input reads as it did. -/
def polyBytesSpec : ChangeSpec := { name := "polyBytes", fn := fun _ => fun
  | [d1, d2, d3] => { results := [.lit (.bool true)], args := [d1, d2, d3] }
  | _ => none }
def polyBytesRow : OpenClaim := { program := "ytcnlomknmhgpbac", sum := "09e47c87629d20b72e06980bf7494f95ee87ea43453cde1ac62c885116839379", func := "parapet/parapetlaw01.PolyBytes", spec := "polyBytes", apart := false }
def PolyBytesSaid : Prop := polyBytesRow.holds Try.pinned (OpenSpec.ofChange polyBytesSpec)

/-- ITS FALSE NEIGHBOUR: 'it returns false'. Refute it at one input. -/
def polyBytesWrong : ChangeSpec := { name := "polyBytes", fn := fun _ => fun
  | [d1, d2, d3] => { results := [.lit (.bool false)], args := [d1, d2, d3] }
  | _ => none }
def PolyBytesWrongFalsely : Prop := polyBytesRow.holds Try.pinned (OpenSpec.ofChange polyBytesWrong)

/-- 'parapetlaw01.PolyWords': WHATEVER THE INPUT: true; the input reads as it did. -/
def polyWordsSpec : ChangeSpec := { name := "polyWords", fn := fun _ => fun
  | [d1, d2, d3] => { results := [.lit (.bool true)], args := [d1, d2, d3] }
  | _ => none }
def polyWordsRow : OpenClaim := { program := "ytcnlomknmhgpbac", sum := "09e47c87629d20b72e06980bf7494f95ee87ea43453cde1ac62c885116839379", func := "parapet/parapetlaw01.PolyWords", spec := "polyWords", apart := false }
def PolyWordsSaid : Prop := polyWordsRow.holds Try.pinned (OpenSpec.ofChange polyWordsSpec)

/-- ITS FALSE NEIGHBOUR: 'it returns false'. Refute it at one input. -/
def polyWordsWrong : ChangeSpec := { name := "polyWords", fn := fun _ => fun
  | [d1, d2, d3] => { results := [.lit (.bool false)], args := [d1, d2, d3] }
  | _ => none }
def PolyWordsWrongFalsely : Prop := polyWordsRow.holds Try.pinned (OpenSpec.ofChange polyWordsWrong)

/-- 'parapetlaw01.PolyEven': WHATEVER THE INPUT: true; the input reads as it did. -/
def polyEvenSpec : ChangeSpec := { name := "polyEven", fn := fun _ => fun
  | [d] => { results := [.lit (.bool true)], args := [d] }
  | _ => none }
def polyEvenRow : OpenClaim := { program := "ytcnlomknmhgpbac", sum := "09e47c87629d20b72e06980bf7494f95ee87ea43453cde1ac62c885116839379", func := "parapet/parapetlaw01.PolyEven", spec := "polyEven", apart := false }
def PolyEvenSaid : Prop := polyEvenRow.holds Try.pinned (OpenSpec.ofChange polyEvenSpec)

/-- ITS FALSE NEIGHBOUR: 'it returns false'. Refute it at one input. -/
def polyEvenWrong : ChangeSpec := { name := "polyEven", fn := fun _ => fun
  | [d] => { results := [.lit (.bool false)], args := [d] }
  | _ => none }
def PolyEvenWrongFalsely : Prop := polyEvenRow.holds Try.pinned (OpenSpec.ofChange polyEvenWrong)

/- THE SECOND FORM. 'bulk': how many values and letters a reading holds, each counted each time it is reached (what is shared counts as often as it is met; a slice's spare places count too). A statement '..UptoSaid' is the law's where the arguments, and the package variables that the reading takes, are together of bulk at most 1048576: NARROWER than '..Said'. Prove '..Said' where nothing that the law and all that it calls make is longer than what came in: it says more and counts as full. Else prove '..UptoSaid'. A law counts once. -/
mutual
def uptoBulk {H : Type} : DataW H → Nat
  | .lit (.string bytes) => bytes.length + 1
  | .lit _ => 1
  | .nil => 1
  | .ptr d => uptoBulk d + 1
  | .slice elems spare => uptoBulkAll elems + uptoBulkAll spare + 1
  | .agg parts => uptoBulkAll parts + 1
  | .iface _ d => uptoBulk d + 1
  | .map entries => uptoBulkEntries entries + 1
  | .held _ => 1
def uptoBulkAll {H : Type} : List (DataW H) → Nat
  | [] => 0
  | d :: r => uptoBulk d + uptoBulkAll r
def uptoBulkEntries {H : Type} : List (Lit × DataW H) → Nat
  | [] => 0
  | x :: r => uptoBulkEntry x + uptoBulkEntries r
def uptoBulkEntry {H : Type} : Lit × DataW H → Nat
  | (.string bytes, d) => bytes.length + uptoBulk d + 1
  | (_, d) => uptoBulk d + 1
 end
def uptoSmall : (H : Type) → List (DataW H) → Bool := fun _ ds => decide (uptoBulkAll ds ≤ 1048576)
def OpenSpec.upto (s : _root_.Go.ChangeSpec) : _root_.Go.OpenSpec := { _root_.Go.OpenSpec.ofChange s with cond := some uptoSmall }

/-- 'parapetlaw01.PolyDivides', WHERE WHAT IT READS IS OF BULK AT MOST 1048576: true; the input reads as it did. -/
def polyDividesUptoRow : OpenClaim := { program := "ytcnlomknmhgpbac", sum := "09e47c87629d20b72e06980bf7494f95ee87ea43453cde1ac62c885116839379", func := "parapet/parapetlaw01.PolyDivides", spec := "polyDivides", apart := false, narrowed := true }
def PolyDividesUptoSaid : Prop := polyDividesUptoRow.holds Try.pinned (OpenSpec.upto polyDividesSpec)

/-- 'parapetlaw01.PolyRest', WHERE WHAT IT READS IS OF BULK AT MOST 1048576: true; the input reads as it did. -/
def polyRestUptoRow : OpenClaim := { program := "ytcnlomknmhgpbac", sum := "09e47c87629d20b72e06980bf7494f95ee87ea43453cde1ac62c885116839379", func := "parapet/parapetlaw01.PolyRest", spec := "polyRest", apart := false, narrowed := true }
def PolyRestUptoSaid : Prop := polyRestUptoRow.holds Try.pinned (OpenSpec.upto polyRestSpec)

/-- 'parapetlaw01.PolyGcd', WHERE WHAT IT READS IS OF BULK AT MOST 1048576: true; the input reads as it did. -/
def polyGcdUptoRow : OpenClaim := { program := "ytcnlomknmhgpbac", sum := "09e47c87629d20b72e06980bf7494f95ee87ea43453cde1ac62c885116839379", func := "parapet/parapetlaw01.PolyGcd", spec := "polyGcd", recurses := true, apart := false, narrowed := true }
def PolyGcdUptoSaid : Prop := polyGcdUptoRow.holds Try.pinned (OpenSpec.upto polyGcdSpec)

/-- 'parapetlaw01.PolyRing', WHERE WHAT IT READS IS OF BULK AT MOST 1048576: true; the input reads as it did. -/
def polyRingUptoRow : OpenClaim := { program := "ytcnlomknmhgpbac", sum := "09e47c87629d20b72e06980bf7494f95ee87ea43453cde1ac62c885116839379", func := "parapet/parapetlaw01.PolyRing", spec := "polyRing", apart := false, narrowed := true }
def PolyRingUptoSaid : Prop := polyRingUptoRow.holds Try.pinned (OpenSpec.upto polyRingSpec)

/-- 'parapetlaw01.PolyMods', WHERE WHAT IT READS IS OF BULK AT MOST 1048576: true; the input reads as it did. -/
def polyModsUptoRow : OpenClaim := { program := "ytcnlomknmhgpbac", sum := "09e47c87629d20b72e06980bf7494f95ee87ea43453cde1ac62c885116839379", func := "parapet/parapetlaw01.PolyMods", spec := "polyMods", recurses := true, apart := false, narrowed := true }
def PolyModsUptoSaid : Prop := polyModsUptoRow.holds Try.pinned (OpenSpec.upto polyModsSpec)

/-- 'parapetlaw01.PolyPowers', WHERE WHAT IT READS IS OF BULK AT MOST 1048576: true; the input reads as it did. -/
def polyPowersUptoRow : OpenClaim := { program := "ytcnlomknmhgpbac", sum := "09e47c87629d20b72e06980bf7494f95ee87ea43453cde1ac62c885116839379", func := "parapet/parapetlaw01.PolyPowers", spec := "polyPowers", apart := false, narrowed := true }
def PolyPowersUptoSaid : Prop := polyPowersUptoRow.holds Try.pinned (OpenSpec.upto polyPowersSpec)

/-- 'parapetlaw01.PolyBytes', WHERE WHAT IT READS IS OF BULK AT MOST 1048576: true; the input reads as it did. -/
def polyBytesUptoRow : OpenClaim := { program := "ytcnlomknmhgpbac", sum := "09e47c87629d20b72e06980bf7494f95ee87ea43453cde1ac62c885116839379", func := "parapet/parapetlaw01.PolyBytes", spec := "polyBytes", apart := false, narrowed := true }
def PolyBytesUptoSaid : Prop := polyBytesUptoRow.holds Try.pinned (OpenSpec.upto polyBytesSpec)

/-- 'parapetlaw01.PolyWords', WHERE WHAT IT READS IS OF BULK AT MOST 1048576: true; the input reads as it did. -/
def polyWordsUptoRow : OpenClaim := { program := "ytcnlomknmhgpbac", sum := "09e47c87629d20b72e06980bf7494f95ee87ea43453cde1ac62c885116839379", func := "parapet/parapetlaw01.PolyWords", spec := "polyWords", apart := false, narrowed := true }
def PolyWordsUptoSaid : Prop := polyWordsUptoRow.holds Try.pinned (OpenSpec.upto polyWordsSpec)

/-- 'parapetlaw01.PolyEven', WHERE WHAT IT READS IS OF BULK AT MOST 1048576: true; the input reads as it did. -/
def polyEvenUptoRow : OpenClaim := { program := "ytcnlomknmhgpbac", sum := "09e47c87629d20b72e06980bf7494f95ee87ea43453cde1ac62c885116839379", func := "parapet/parapetlaw01.PolyEven", spec := "polyEven", apart := false, narrowed := true }
def PolyEvenUptoSaid : Prop := polyEvenUptoRow.holds Try.pinned (OpenSpec.upto polyEvenSpec)

end Rows
end Go.Proofs.Ytcnlomknmhgpbac
