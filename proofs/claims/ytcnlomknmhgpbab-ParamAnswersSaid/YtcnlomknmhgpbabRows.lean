/-
  No cell of these rows narrows 'for every input' (looked for: loops, veiled, ifaces, maps, wideKeys, modest, calm, conditions, laid).
  DERIVED. THE GIVEN ROWS OF THIS SEAT. 10 by the template 'for every input the law returns true; each argument reads behind the call as it read before'; 0 by the template 'total and deterministic' (their statements: YtcnlomknmhgpbabTotals.lean).
  GIVEN WITH THE SEED: the statements are not yours to turn. If you find one false, say at which input.
  Laid BY PROGRAM, IN A SANDBOX (cutbox-rows.mjs): the forced cells as the released guide's own fill.sh prints them over the translation 29aa9fb315dc0555… (all of the seat's roots in one cut). By AI agents, Wed Nov 11 2026. No macro, syntax, notation, axiom, sorry.
-/
import Derived.Test.YtcnlomknmhgpbabChecked
import GoSem.Claim
import GoSem.ClaimJoined
import GoSem.ClaimMapViews
import Derived.JoinedTies
import Derived.KernelRfl
namespace Go.Proofs.Ytcnlomknmhgpbab
/- THE CELL 'sum', in the pinned program and in every row, IS THE sha256 OF THE DUMP (.gsa) THAT YtcnlomknmhgpbabProg.lean LOADS. Nothing in Lean hashes anything: it is a label: what it is worth is what the hold of that sum in a sandbox is worth. -/
noncomputable def Try.pinned : Pinned := { name := "ytcnlomknmhgpbab", sum := "29aa9fb315dc05555c3432fc78f293118413bcc93e3a92c83673ae28f14ce244", checked := Try.checked }
namespace Rows
def none {H : Type} : Left H := { results := [], args := [] }

/-- 'parapetlaw09.ParamAnswers': WHATEVER THE INPUT: true; the input reads as it did. -/
def paramAnswersSpec : ChangeSpec := { name := "paramAnswers", fn := fun _ => fun
  | [d1, d2] => { results := [.lit (.bool true)], args := [d1, d2] }
  | _ => none }
def paramAnswersRow : OpenClaim := { program := "ytcnlomknmhgpbab", sum := "29aa9fb315dc05555c3432fc78f293118413bcc93e3a92c83673ae28f14ce244", func := "parapet/parapetlaw09.ParamAnswers", spec := "paramAnswers", apart := false }
def ParamAnswersSaid : Prop := paramAnswersRow.holds Try.pinned (OpenSpec.ofChange paramAnswersSpec)

/-- ITS FALSE NEIGHBOUR: 'it returns false'. Refute it at one input. -/
def paramAnswersWrong : ChangeSpec := { name := "paramAnswers", fn := fun _ => fun
  | [d1, d2] => { results := [.lit (.bool false)], args := [d1, d2] }
  | _ => none }
def ParamAnswersWrongFalsely : Prop := paramAnswersRow.holds Try.pinned (OpenSpec.ofChange paramAnswersWrong)

/-- 'parapetlaw09.ParamDecodes': WHATEVER THE INPUT: true; the input reads as it did. -/
def paramDecodesSpec : ChangeSpec := { name := "paramDecodes", fn := fun _ => fun
  | [d] => { results := [.lit (.bool true)], args := [d] }
  | _ => none }
def paramDecodesRow : OpenClaim := { program := "ytcnlomknmhgpbab", sum := "29aa9fb315dc05555c3432fc78f293118413bcc93e3a92c83673ae28f14ce244", func := "parapet/parapetlaw09.ParamDecodes", spec := "paramDecodes", apart := false }
def ParamDecodesSaid : Prop := paramDecodesRow.holds Try.pinned (OpenSpec.ofChange paramDecodesSpec)

/-- ITS FALSE NEIGHBOUR: 'it returns false'. Refute it at one input. -/
def paramDecodesWrong : ChangeSpec := { name := "paramDecodes", fn := fun _ => fun
  | [d] => { results := [.lit (.bool false)], args := [d] }
  | _ => none }
def ParamDecodesWrongFalsely : Prop := paramDecodesRow.holds Try.pinned (OpenSpec.ofChange paramDecodesWrong)

/-- 'parapetlaw09.ParamBack': WHATEVER THE INPUT: true; the input reads as it did. -/
def paramBackSpec : ChangeSpec := { name := "paramBack", fn := fun _ => fun
  | [d] => { results := [.lit (.bool true)], args := [d] }
  | _ => none }
def paramBackRow : OpenClaim := { program := "ytcnlomknmhgpbab", sum := "29aa9fb315dc05555c3432fc78f293118413bcc93e3a92c83673ae28f14ce244", func := "parapet/parapetlaw09.ParamBack", spec := "paramBack", apart := false }
def ParamBackSaid : Prop := paramBackRow.holds Try.pinned (OpenSpec.ofChange paramBackSpec)

/-- ITS FALSE NEIGHBOUR: 'it returns false'. Refute it at one input. -/
def paramBackWrong : ChangeSpec := { name := "paramBack", fn := fun _ => fun
  | [d] => { results := [.lit (.bool false)], args := [d] }
  | _ => none }
def ParamBackWrongFalsely : Prop := paramBackRow.holds Try.pinned (OpenSpec.ofChange paramBackWrong)

/-- 'parapetlaw09.ParamOwn': WHATEVER THE INPUT: true; the input reads as it did. -/
def paramOwnSpec : ChangeSpec := { name := "paramOwn", fn := fun _ => fun
  | [d1, d2] => { results := [.lit (.bool true)], args := [d1, d2] }
  | _ => none }
def paramOwnRow : OpenClaim := { program := "ytcnlomknmhgpbab", sum := "29aa9fb315dc05555c3432fc78f293118413bcc93e3a92c83673ae28f14ce244", func := "parapet/parapetlaw09.ParamOwn", spec := "paramOwn", apart := false }
def ParamOwnSaid : Prop := paramOwnRow.holds Try.pinned (OpenSpec.ofChange paramOwnSpec)

/-- ITS FALSE NEIGHBOUR: 'it returns false'. Refute it at one input. -/
def paramOwnWrong : ChangeSpec := { name := "paramOwn", fn := fun _ => fun
  | [d1, d2] => { results := [.lit (.bool false)], args := [d1, d2] }
  | _ => none }
def ParamOwnWrongFalsely : Prop := paramOwnRow.holds Try.pinned (OpenSpec.ofChange paramOwnWrong)

/-- 'parapetlaw03.BurstMakes': WHATEVER THE INPUT: true; the input reads as it did. -/
def burstMakesSpec : ChangeSpec := { name := "burstMakes", fn := fun _ => fun
  | [d1, d2, d3] => { results := [.lit (.bool true)], args := [d1, d2, d3] }
  | _ => none }
def burstMakesRow : OpenClaim := { program := "ytcnlomknmhgpbab", sum := "29aa9fb315dc05555c3432fc78f293118413bcc93e3a92c83673ae28f14ce244", func := "parapet/parapetlaw03.BurstMakes", spec := "burstMakes", apart := false }
def BurstMakesSaid : Prop := burstMakesRow.holds Try.pinned (OpenSpec.ofChange burstMakesSpec)

/-- ITS FALSE NEIGHBOUR: 'it returns false'. Refute it at one input. -/
def burstMakesWrong : ChangeSpec := { name := "burstMakes", fn := fun _ => fun
  | [d1, d2, d3] => { results := [.lit (.bool false)], args := [d1, d2, d3] }
  | _ => none }
def BurstMakesWrongFalsely : Prop := burstMakesRow.holds Try.pinned (OpenSpec.ofChange burstMakesWrong)

/-- 'parapetlaw03.BurstShape': WHATEVER THE INPUT: true; the input reads as it did. -/
def burstShapeSpec : ChangeSpec := { name := "burstShape", fn := fun _ => fun
  | [d1, d2, d3] => { results := [.lit (.bool true)], args := [d1, d2, d3] }
  | _ => none }
def burstShapeRow : OpenClaim := { program := "ytcnlomknmhgpbab", sum := "29aa9fb315dc05555c3432fc78f293118413bcc93e3a92c83673ae28f14ce244", func := "parapet/parapetlaw03.BurstShape", spec := "burstShape", apart := false }
def BurstShapeSaid : Prop := burstShapeRow.holds Try.pinned (OpenSpec.ofChange burstShapeSpec)

/-- ITS FALSE NEIGHBOUR: 'it returns false'. Refute it at one input. -/
def burstShapeWrong : ChangeSpec := { name := "burstShape", fn := fun _ => fun
  | [d1, d2, d3] => { results := [.lit (.bool false)], args := [d1, d2, d3] }
  | _ => none }
def BurstShapeWrongFalsely : Prop := burstShapeRow.holds Try.pinned (OpenSpec.ofChange burstShapeWrong)

/-- 'parapetlaw03.BurstSums': WHATEVER THE INPUT: true; the input reads as it did. -/
def burstSumsSpec : ChangeSpec := { name := "burstSums", fn := fun _ => fun
  | [d1, d2, d3] => { results := [.lit (.bool true)], args := [d1, d2, d3] }
  | _ => none }
def burstSumsRow : OpenClaim := { program := "ytcnlomknmhgpbab", sum := "29aa9fb315dc05555c3432fc78f293118413bcc93e3a92c83673ae28f14ce244", func := "parapet/parapetlaw03.BurstSums", spec := "burstSums", apart := false }
def BurstSumsSaid : Prop := burstSumsRow.holds Try.pinned (OpenSpec.ofChange burstSumsSpec)

/-- ITS FALSE NEIGHBOUR: 'it returns false'. Refute it at one input. -/
def burstSumsWrong : ChangeSpec := { name := "burstSums", fn := fun _ => fun
  | [d1, d2, d3] => { results := [.lit (.bool false)], args := [d1, d2, d3] }
  | _ => none }
def BurstSumsWrongFalsely : Prop := burstSumsRow.holds Try.pinned (OpenSpec.ofChange burstSumsWrong)

/-- 'parapetlaw03.BurstTurns': WHATEVER THE INPUT: true; the input reads as it did. -/
def burstTurnsSpec : ChangeSpec := { name := "burstTurns", fn := fun _ => fun
  | [d1, d2] => { results := [.lit (.bool true)], args := [d1, d2] }
  | _ => none }
def burstTurnsRow : OpenClaim := { program := "ytcnlomknmhgpbab", sum := "29aa9fb315dc05555c3432fc78f293118413bcc93e3a92c83673ae28f14ce244", func := "parapet/parapetlaw03.BurstTurns", spec := "burstTurns", apart := false }
def BurstTurnsSaid : Prop := burstTurnsRow.holds Try.pinned (OpenSpec.ofChange burstTurnsSpec)

/-- ITS FALSE NEIGHBOUR: 'it returns false'. Refute it at one input. -/
def burstTurnsWrong : ChangeSpec := { name := "burstTurns", fn := fun _ => fun
  | [d1, d2] => { results := [.lit (.bool false)], args := [d1, d2] }
  | _ => none }
def BurstTurnsWrongFalsely : Prop := burstTurnsRow.holds Try.pinned (OpenSpec.ofChange burstTurnsWrong)

/-- 'parapetlaw03.BurstOwn': WHATEVER THE INPUT: true; the input reads as it did. -/
def burstOwnSpec : ChangeSpec := { name := "burstOwn", fn := fun _ => fun
  | [d1, d2, d3] => { results := [.lit (.bool true)], args := [d1, d2, d3] }
  | _ => none }
def burstOwnRow : OpenClaim := { program := "ytcnlomknmhgpbab", sum := "29aa9fb315dc05555c3432fc78f293118413bcc93e3a92c83673ae28f14ce244", func := "parapet/parapetlaw03.BurstOwn", spec := "burstOwn", apart := false }
def BurstOwnSaid : Prop := burstOwnRow.holds Try.pinned (OpenSpec.ofChange burstOwnSpec)

/-- ITS FALSE NEIGHBOUR: 'it returns false'. Refute it at one input. -/
def burstOwnWrong : ChangeSpec := { name := "burstOwn", fn := fun _ => fun
  | [d1, d2, d3] => { results := [.lit (.bool false)], args := [d1, d2, d3] }
  | _ => none }
def BurstOwnWrongFalsely : Prop := burstOwnRow.holds Try.pinned (OpenSpec.ofChange burstOwnWrong)

/-- 'parapetlaw03.BurstLooks': WHATEVER THE INPUT: true; the input reads as it did. -/
def burstLooksSpec : ChangeSpec := { name := "burstLooks", fn := fun _ => fun
  | [d] => { results := [.lit (.bool true)], args := [d] }
  | _ => none }
def burstLooksRow : OpenClaim := { program := "ytcnlomknmhgpbab", sum := "29aa9fb315dc05555c3432fc78f293118413bcc93e3a92c83673ae28f14ce244", func := "parapet/parapetlaw03.BurstLooks", spec := "burstLooks", apart := false }
def BurstLooksSaid : Prop := burstLooksRow.holds Try.pinned (OpenSpec.ofChange burstLooksSpec)

/-- ITS FALSE NEIGHBOUR: 'it returns false'. Refute it at one input. -/
def burstLooksWrong : ChangeSpec := { name := "burstLooks", fn := fun _ => fun
  | [d] => { results := [.lit (.bool false)], args := [d] }
  | _ => none }
def BurstLooksWrongFalsely : Prop := burstLooksRow.holds Try.pinned (OpenSpec.ofChange burstLooksWrong)

/- THE SECOND FORM. 'bulk': how many values and letters a reading holds, each counted each time it is reached (what is shared counts as often as it is met; a slice's spare places count too). A statement '..UptoSaid' is the law's where the arguments, and the package variables that the reading takes, are together of bulk at most 1048576: NARROWER than '..Said'. Prove '..Said' where nothing that the law and all that it calls make is longer than what came in: it says more and counts as full. Else prove '..UptoSaid'. A law counts once. -/
mutual
def uptoBulk {H : Type} : DataW H → Nat
  | .lit (.string bytes) => bytes.length + 1
  | .lit _ => 1
  | .nil => 1
  | .ptr d => uptoBulk d + 1
  | .slice elems spare => uptoBulkAll elems + uptoBulkAll spare + 1
  | .agg parts => uptoBulkAll parts + 1
  | .iface _ d => uptoBulk d + 1
  | .map entries => uptoBulkEntries entries + 1
  | .held _ => 1
def uptoBulkAll {H : Type} : List (DataW H) → Nat
  | [] => 0
  | d :: r => uptoBulk d + uptoBulkAll r
def uptoBulkEntries {H : Type} : List (Lit × DataW H) → Nat
  | [] => 0
  | x :: r => uptoBulkEntry x + uptoBulkEntries r
def uptoBulkEntry {H : Type} : Lit × DataW H → Nat
  | (.string bytes, d) => bytes.length + uptoBulk d + 1
  | (_, d) => uptoBulk d + 1
 end
def uptoSmall : (H : Type) → List (DataW H) → Bool := fun _ ds => decide (uptoBulkAll ds ≤ 1048576)
def OpenSpec.upto (s : _root_.Go.ChangeSpec) : _root_.Go.OpenSpec := { _root_.Go.OpenSpec.ofChange s with cond := some uptoSmall }

/-- 'parapetlaw09.ParamAnswers', WHERE WHAT IT READS IS OF BULK AT MOST 1048576: true; the input reads as it did. -/
def paramAnswersUptoRow : OpenClaim := { program := "ytcnlomknmhgpbab", sum := "29aa9fb315dc05555c3432fc78f293118413bcc93e3a92c83673ae28f14ce244", func := "parapet/parapetlaw09.ParamAnswers", spec := "paramAnswers", apart := false, narrowed := true }
def ParamAnswersUptoSaid : Prop := paramAnswersUptoRow.holds Try.pinned (OpenSpec.upto paramAnswersSpec)

/-- 'parapetlaw09.ParamDecodes', WHERE WHAT IT READS IS OF BULK AT MOST 1048576: true; the input reads as it did. -/
def paramDecodesUptoRow : OpenClaim := { program := "ytcnlomknmhgpbab", sum := "29aa9fb315dc05555c3432fc78f293118413bcc93e3a92c83673ae28f14ce244", func := "parapet/parapetlaw09.ParamDecodes", spec := "paramDecodes", apart := false, narrowed := true }
def ParamDecodesUptoSaid : Prop := paramDecodesUptoRow.holds Try.pinned (OpenSpec.upto paramDecodesSpec)

/-- 'parapetlaw09.ParamBack', WHERE WHAT IT READS IS OF BULK AT MOST 1048576: true; the input reads as it did. -/
def paramBackUptoRow : OpenClaim := { program := "ytcnlomknmhgpbab", sum := "29aa9fb315dc05555c3432fc78f293118413bcc93e3a92c83673ae28f14ce244", func := "parapet/parapetlaw09.ParamBack", spec := "paramBack", apart := false, narrowed := true }
def ParamBackUptoSaid : Prop := paramBackUptoRow.holds Try.pinned (OpenSpec.upto paramBackSpec)

/-- 'parapetlaw09.ParamOwn', WHERE WHAT IT READS IS OF BULK AT MOST 1048576: true; the input reads as it did. -/
def paramOwnUptoRow : OpenClaim := { program := "ytcnlomknmhgpbab", sum := "29aa9fb315dc05555c3432fc78f293118413bcc93e3a92c83673ae28f14ce244", func := "parapet/parapetlaw09.ParamOwn", spec := "paramOwn", apart := false, narrowed := true }
def ParamOwnUptoSaid : Prop := paramOwnUptoRow.holds Try.pinned (OpenSpec.upto paramOwnSpec)

/-- 'parapetlaw03.BurstMakes', WHERE WHAT IT READS IS OF BULK AT MOST 1048576: true; the input reads as it did. -/
def burstMakesUptoRow : OpenClaim := { program := "ytcnlomknmhgpbab", sum := "29aa9fb315dc05555c3432fc78f293118413bcc93e3a92c83673ae28f14ce244", func := "parapet/parapetlaw03.BurstMakes", spec := "burstMakes", apart := false, narrowed := true }
def BurstMakesUptoSaid : Prop := burstMakesUptoRow.holds Try.pinned (OpenSpec.upto burstMakesSpec)

/-- 'parapetlaw03.BurstShape', WHERE WHAT IT READS IS OF BULK AT MOST 1048576: true; the input reads as it did. -/
def burstShapeUptoRow : OpenClaim := { program := "ytcnlomknmhgpbab", sum := "29aa9fb315dc05555c3432fc78f293118413bcc93e3a92c83673ae28f14ce244", func := "parapet/parapetlaw03.BurstShape", spec := "burstShape", apart := false, narrowed := true }
def BurstShapeUptoSaid : Prop := burstShapeUptoRow.holds Try.pinned (OpenSpec.upto burstShapeSpec)

/-- 'parapetlaw03.BurstSums', WHERE WHAT IT READS IS OF BULK AT MOST 1048576: true; the input reads as it did. -/
def burstSumsUptoRow : OpenClaim := { program := "ytcnlomknmhgpbab", sum := "29aa9fb315dc05555c3432fc78f293118413bcc93e3a92c83673ae28f14ce244", func := "parapet/parapetlaw03.BurstSums", spec := "burstSums", apart := false, narrowed := true }
def BurstSumsUptoSaid : Prop := burstSumsUptoRow.holds Try.pinned (OpenSpec.upto burstSumsSpec)

/-- 'parapetlaw03.BurstTurns', WHERE WHAT IT READS IS OF BULK AT MOST 1048576: true; the input reads as it did. -/
def burstTurnsUptoRow : OpenClaim := { program := "ytcnlomknmhgpbab", sum := "29aa9fb315dc05555c3432fc78f293118413bcc93e3a92c83673ae28f14ce244", func := "parapet/parapetlaw03.BurstTurns", spec := "burstTurns", apart := false, narrowed := true }
def BurstTurnsUptoSaid : Prop := burstTurnsUptoRow.holds Try.pinned (OpenSpec.upto burstTurnsSpec)

/-- 'parapetlaw03.BurstOwn', WHERE WHAT IT READS IS OF BULK AT MOST 1048576: true; the input reads as it did. -/
def burstOwnUptoRow : OpenClaim := { program := "ytcnlomknmhgpbab", sum := "29aa9fb315dc05555c3432fc78f293118413bcc93e3a92c83673ae28f14ce244", func := "parapet/parapetlaw03.BurstOwn", spec := "burstOwn", apart := false, narrowed := true }
def BurstOwnUptoSaid : Prop := burstOwnUptoRow.holds Try.pinned (OpenSpec.upto burstOwnSpec)

/-- 'parapetlaw03.BurstLooks', WHERE WHAT IT READS IS OF BULK AT MOST 1048576: true; the input reads as it did. -/
def burstLooksUptoRow : OpenClaim := { program := "ytcnlomknmhgpbab", sum := "29aa9fb315dc05555c3432fc78f293118413bcc93e3a92c83673ae28f14ce244", func := "parapet/parapetlaw03.BurstLooks", spec := "burstLooks", apart := false, narrowed := true }
def BurstLooksUptoSaid : Prop := burstLooksUptoRow.holds Try.pinned (OpenSpec.upto burstLooksSpec)

end Rows
end Go.Proofs.Ytcnlomknmhgpbab
