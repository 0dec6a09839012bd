/-
  No cell of these rows narrows 'for every input' (looked for: loops, veiled, ifaces, maps, wideKeys, modest, calm, conditions, laid).
  DERIVED. THE GIVEN ROWS OF THIS SEAT. 7 by the template 'for every input the law returns true; each argument reads behind the call as it read before'; 0 by the template 'total and deterministic' (their statements: YtlafkeijikbenacTotals.lean).
  GIVEN WITH THE SEED: the statements are not yours to turn. If you find one false, say at which input.
  Laid BY PROGRAM, IN A SANDBOX (cutbox-rows.mjs): the forced cells as the released guide's own fill.sh prints them over the translation 0363aa71482a7297… (all of the seat's roots in one cut). By AI agents, Wed Nov 11 2026. No macro, syntax, notation, axiom, sorry.
-/
import Derived.Test.YtlafkeijikbenacChecked
import GoSem.Claim
import GoSem.ClaimJoined
import GoSem.ClaimMapViews
import Derived.JoinedTies
import Derived.KernelRfl
namespace Go.Proofs.Ytlafkeijikbenac
/- THE CELL 'sum', in the pinned program and in every row, IS THE sha256 OF THE DUMP (.gsa) THAT YtlafkeijikbenacProg.lean LOADS. Nothing in Lean hashes anything: it is a label: what it is worth is what the hold of that sum in a sandbox is worth. -/
noncomputable def Try.pinned : Pinned := { name := "ytlafkeijikbenac", sum := "0363aa71482a7297fab04e030b97a73550aacee3a2ae64941b63109e44872427", checked := Try.checked }
namespace Rows
def none {H : Type} : Left H := { results := [], args := [] }

/-- 'parapetlaw04.UnitDecodes': WHATEVER THE INPUT: true; the input reads as it did. -/
def unitDecodesSpec : ChangeSpec := { name := "unitDecodes", fn := fun _ => fun
  | [d] => { results := [.lit (.bool true)], args := [d] }
  | _ => none }
def unitDecodesRow : OpenClaim := { program := "ytlafkeijikbenac", sum := "0363aa71482a7297fab04e030b97a73550aacee3a2ae64941b63109e44872427", func := "parapet/parapetlaw04.UnitDecodes", spec := "unitDecodes", apart := false }
def UnitDecodesSaid : Prop := unitDecodesRow.holds Try.pinned (OpenSpec.ofChange unitDecodesSpec)

/-- ITS FALSE NEIGHBOUR: 'it returns false'. Refute it at one input. -/
def unitDecodesWrong : ChangeSpec := { name := "unitDecodes", fn := fun _ => fun
  | [d] => { results := [.lit (.bool false)], args := [d] }
  | _ => none }
def UnitDecodesWrongFalsely : Prop := unitDecodesRow.holds Try.pinned (OpenSpec.ofChange unitDecodesWrong)

/-- 'parapetlaw04.UnitBack': WHATEVER THE INPUT: true; the input reads as it did. -/
def unitBackSpec : ChangeSpec := { name := "unitBack", fn := fun _ => fun
  | [d] => { results := [.lit (.bool true)], args := [d] }
  | _ => none }
def unitBackRow : OpenClaim := { program := "ytlafkeijikbenac", sum := "0363aa71482a7297fab04e030b97a73550aacee3a2ae64941b63109e44872427", func := "parapet/parapetlaw04.UnitBack", spec := "unitBack", apart := false }
def UnitBackSaid : Prop := unitBackRow.holds Try.pinned (OpenSpec.ofChange unitBackSpec)

/-- ITS FALSE NEIGHBOUR: 'it returns false'. Refute it at one input. -/
def unitBackWrong : ChangeSpec := { name := "unitBack", fn := fun _ => fun
  | [d] => { results := [.lit (.bool false)], args := [d] }
  | _ => none }
def UnitBackWrongFalsely : Prop := unitBackRow.holds Try.pinned (OpenSpec.ofChange unitBackWrong)

/-- 'parapetlaw04.UnitOneForm': WHATEVER THE INPUT: true; the input reads as it did. -/
def unitOneFormSpec : ChangeSpec := { name := "unitOneForm", fn := fun _ => fun
  | [d] => { results := [.lit (.bool true)], args := [d] }
  | _ => none }
def unitOneFormRow : OpenClaim := { program := "ytlafkeijikbenac", sum := "0363aa71482a7297fab04e030b97a73550aacee3a2ae64941b63109e44872427", func := "parapet/parapetlaw04.UnitOneForm", spec := "unitOneForm", apart := false }
def UnitOneFormSaid : Prop := unitOneFormRow.holds Try.pinned (OpenSpec.ofChange unitOneFormSpec)

/-- ITS FALSE NEIGHBOUR: 'it returns false'. Refute it at one input. -/
def unitOneFormWrong : ChangeSpec := { name := "unitOneForm", fn := fun _ => fun
  | [d] => { results := [.lit (.bool false)], args := [d] }
  | _ => none }
def UnitOneFormWrongFalsely : Prop := unitOneFormRow.holds Try.pinned (OpenSpec.ofChange unitOneFormWrong)

/-- 'parapetlaw04.UnitBursts': WHATEVER THE INPUT: true; the input reads as it did. -/
def unitBurstsSpec : ChangeSpec := { name := "unitBursts", fn := fun _ => fun
  | [d1, d2, d3, d4] => { results := [.lit (.bool true)], args := [d1, d2, d3, d4] }
  | _ => none }
def unitBurstsRow : OpenClaim := { program := "ytlafkeijikbenac", sum := "0363aa71482a7297fab04e030b97a73550aacee3a2ae64941b63109e44872427", func := "parapet/parapetlaw04.UnitBursts", spec := "unitBursts", apart := false }
def UnitBurstsSaid : Prop := unitBurstsRow.holds Try.pinned (OpenSpec.ofChange unitBurstsSpec)

/-- ITS FALSE NEIGHBOUR: 'it returns false'. Refute it at one input. -/
def unitBurstsWrong : ChangeSpec := { name := "unitBursts", fn := fun _ => fun
  | [d1, d2, d3, d4] => { results := [.lit (.bool false)], args := [d1, d2, d3, d4] }
  | _ => none }
def UnitBurstsWrongFalsely : Prop := unitBurstsRow.holds Try.pinned (OpenSpec.ofChange unitBurstsWrong)

/-- 'parapetlaw04.UnitOwn': WHATEVER THE INPUT: true; the input reads as it did. -/
def unitOwnSpec : ChangeSpec := { name := "unitOwn", fn := fun _ => fun
  | [d] => { results := [.lit (.bool true)], args := [d] }
  | _ => none }
def unitOwnRow : OpenClaim := { program := "ytlafkeijikbenac", sum := "0363aa71482a7297fab04e030b97a73550aacee3a2ae64941b63109e44872427", func := "parapet/parapetlaw04.UnitOwn", spec := "unitOwn", apart := false }
def UnitOwnSaid : Prop := unitOwnRow.holds Try.pinned (OpenSpec.ofChange unitOwnSpec)

/-- ITS FALSE NEIGHBOUR: 'it returns false'. Refute it at one input. -/
def unitOwnWrong : ChangeSpec := { name := "unitOwn", fn := fun _ => fun
  | [d] => { results := [.lit (.bool false)], args := [d] }
  | _ => none }
def UnitOwnWrongFalsely : Prop := unitOwnRow.holds Try.pinned (OpenSpec.ofChange unitOwnWrong)

/-- 'parapetlaw04.UnitKinds': WHATEVER THE INPUT: true; the input reads as it did. -/
def unitKindsSpec : ChangeSpec := { name := "unitKinds", fn := fun _ => fun
  | [d] => { results := [.lit (.bool true)], args := [d] }
  | _ => none }
def unitKindsRow : OpenClaim := { program := "ytlafkeijikbenac", sum := "0363aa71482a7297fab04e030b97a73550aacee3a2ae64941b63109e44872427", func := "parapet/parapetlaw04.UnitKinds", spec := "unitKinds", apart := false }
def UnitKindsSaid : Prop := unitKindsRow.holds Try.pinned (OpenSpec.ofChange unitKindsSpec)

/-- ITS FALSE NEIGHBOUR: 'it returns false'. Refute it at one input. -/
def unitKindsWrong : ChangeSpec := { name := "unitKinds", fn := fun _ => fun
  | [d] => { results := [.lit (.bool false)], args := [d] }
  | _ => none }
def UnitKindsWrongFalsely : Prop := unitKindsRow.holds Try.pinned (OpenSpec.ofChange unitKindsWrong)

/-- 'parapetlaw04.UnitEncodes': WHATEVER THE INPUT: true; the input reads as it did. -/
def unitEncodesSpec : ChangeSpec := { name := "unitEncodes", fn := fun _ => fun
  | [d] => { results := [.lit (.bool true)], args := [d] }
  | _ => none }
def unitEncodesRow : OpenClaim := { program := "ytlafkeijikbenac", sum := "0363aa71482a7297fab04e030b97a73550aacee3a2ae64941b63109e44872427", func := "parapet/parapetlaw04.UnitEncodes", spec := "unitEncodes", apart := false }
def UnitEncodesSaid : Prop := unitEncodesRow.holds Try.pinned (OpenSpec.ofChange unitEncodesSpec)

/-- ITS FALSE NEIGHBOUR: 'it returns false'. Refute it at one input. -/
def unitEncodesWrong : ChangeSpec := { name := "unitEncodes", fn := fun _ => fun
  | [d] => { results := [.lit (.bool false)], args := [d] }
  | _ => none }
def UnitEncodesWrongFalsely : Prop := unitEncodesRow.holds Try.pinned (OpenSpec.ofChange unitEncodesWrong)

/- THE SECOND FORM. 'bulk': how many values and letters a reading holds, each counted each time it is reached (what is shared counts as often as it is met; a slice's spare places count too). A statement '..UptoSaid' is the law's where the arguments, and the package variables that the reading takes, are together of bulk at most 1048576: NARROWER than '..Said'. Prove '..Said' where nothing that the law and all that it calls make is longer than what came in: it says more and counts as full. Else prove '..UptoSaid'. A law counts once. -/
mutual
def uptoBulk {H : Type} : DataW H → Nat
  | .lit (.string bytes) => bytes.length + 1
  | .lit _ => 1
  | .nil => 1
  | .ptr d => uptoBulk d + 1
  | .slice elems spare => uptoBulkAll elems + uptoBulkAll spare + 1
  | .agg parts => uptoBulkAll parts + 1
  | .iface _ d => uptoBulk d + 1
  | .map entries => uptoBulkEntries entries + 1
  | .held _ => 1
def uptoBulkAll {H : Type} : List (DataW H) → Nat
  | [] => 0
  | d :: r => uptoBulk d + uptoBulkAll r
def uptoBulkEntries {H : Type} : List (Lit × DataW H) → Nat
  | [] => 0
  | x :: r => uptoBulkEntry x + uptoBulkEntries r
def uptoBulkEntry {H : Type} : Lit × DataW H → Nat
  | (.string bytes, d) => bytes.length + uptoBulk d + 1
  | (_, d) => uptoBulk d + 1
 end
def uptoSmall : (H : Type) → List (DataW H) → Bool := fun _ ds => decide (uptoBulkAll ds ≤ 1048576)
def OpenSpec.upto (s : _root_.Go.ChangeSpec) : _root_.Go.OpenSpec := { _root_.Go.OpenSpec.ofChange s with cond := some uptoSmall }

/-- 'parapetlaw04.UnitDecodes', WHERE WHAT IT READS IS OF BULK AT MOST 1048576: true; the input reads as it did. -/
def unitDecodesUptoRow : OpenClaim := { program := "ytlafkeijikbenac", sum := "0363aa71482a7297fab04e030b97a73550aacee3a2ae64941b63109e44872427", func := "parapet/parapetlaw04.UnitDecodes", spec := "unitDecodes", apart := false, narrowed := true }
def UnitDecodesUptoSaid : Prop := unitDecodesUptoRow.holds Try.pinned (OpenSpec.upto unitDecodesSpec)

/-- 'parapetlaw04.UnitBack', WHERE WHAT IT READS IS OF BULK AT MOST 1048576: true; the input reads as it did. -/
def unitBackUptoRow : OpenClaim := { program := "ytlafkeijikbenac", sum := "0363aa71482a7297fab04e030b97a73550aacee3a2ae64941b63109e44872427", func := "parapet/parapetlaw04.UnitBack", spec := "unitBack", apart := false, narrowed := true }
def UnitBackUptoSaid : Prop := unitBackUptoRow.holds Try.pinned (OpenSpec.upto unitBackSpec)

/-- 'parapetlaw04.UnitOneForm', WHERE WHAT IT READS IS OF BULK AT MOST 1048576: true; the input reads as it did. -/
def unitOneFormUptoRow : OpenClaim := { program := "ytlafkeijikbenac", sum := "0363aa71482a7297fab04e030b97a73550aacee3a2ae64941b63109e44872427", func := "parapet/parapetlaw04.UnitOneForm", spec := "unitOneForm", apart := false, narrowed := true }
def UnitOneFormUptoSaid : Prop := unitOneFormUptoRow.holds Try.pinned (OpenSpec.upto unitOneFormSpec)

/-- 'parapetlaw04.UnitBursts', WHERE WHAT IT READS IS OF BULK AT MOST 1048576: true; the input reads as it did. -/
def unitBurstsUptoRow : OpenClaim := { program := "ytlafkeijikbenac", sum := "0363aa71482a7297fab04e030b97a73550aacee3a2ae64941b63109e44872427", func := "parapet/parapetlaw04.UnitBursts", spec := "unitBursts", apart := false, narrowed := true }
def UnitBurstsUptoSaid : Prop := unitBurstsUptoRow.holds Try.pinned (OpenSpec.upto unitBurstsSpec)

/-- 'parapetlaw04.UnitOwn', WHERE WHAT IT READS IS OF BULK AT MOST 1048576: true; the input reads as it did. -/
def unitOwnUptoRow : OpenClaim := { program := "ytlafkeijikbenac", sum := "0363aa71482a7297fab04e030b97a73550aacee3a2ae64941b63109e44872427", func := "parapet/parapetlaw04.UnitOwn", spec := "unitOwn", apart := false, narrowed := true }
def UnitOwnUptoSaid : Prop := unitOwnUptoRow.holds Try.pinned (OpenSpec.upto unitOwnSpec)

/-- 'parapetlaw04.UnitKinds', WHERE WHAT IT READS IS OF BULK AT MOST 1048576: true; the input reads as it did. -/
def unitKindsUptoRow : OpenClaim := { program := "ytlafkeijikbenac", sum := "0363aa71482a7297fab04e030b97a73550aacee3a2ae64941b63109e44872427", func := "parapet/parapetlaw04.UnitKinds", spec := "unitKinds", apart := false, narrowed := true }
def UnitKindsUptoSaid : Prop := unitKindsUptoRow.holds Try.pinned (OpenSpec.upto unitKindsSpec)

/-- 'parapetlaw04.UnitEncodes', WHERE WHAT IT READS IS OF BULK AT MOST 1048576: true; the input reads as it did. -/
def unitEncodesUptoRow : OpenClaim := { program := "ytlafkeijikbenac", sum := "0363aa71482a7297fab04e030b97a73550aacee3a2ae64941b63109e44872427", func := "parapet/parapetlaw04.UnitEncodes", spec := "unitEncodes", apart := false, narrowed := true }
def UnitEncodesUptoSaid : Prop := unitEncodesUptoRow.holds Try.pinned (OpenSpec.upto unitEncodesSpec)

end Rows
end Go.Proofs.Ytlafkeijikbenac
