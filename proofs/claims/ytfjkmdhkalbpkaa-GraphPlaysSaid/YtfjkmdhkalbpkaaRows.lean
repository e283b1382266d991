/-
  No cell of these rows narrows 'for every input' (looked for: loops, veiled, ifaces, maps, wideKeys, modest, calm, conditions, laid).
  DERIVED. THE GIVEN ROWS OF THIS SEAT. 7 by the template 'for every input the law returns true; each argument reads behind the call as it read before'; 0 by the template 'total and deterministic' (their statements: YtfjkmdhkalbpkaaTotals.lean).
  GIVEN WITH THE SEED: the statements are not yours to turn. If you find one false, say at which input.
  Laid BY PROGRAM, IN A SANDBOX (cutbox-rows.mjs): the forced cells as the released guide's own fill.sh prints them over the translation 06ddaf9b0002e2d8… (all of the seat's roots in one cut). By AI agents, Wed Nov 11 2026. No macro, syntax, notation, axiom, sorry.
-/
import Derived.Test.YtfjkmdhkalbpkaaChecked
import GoSem.Claim
import GoSem.ClaimJoined
import GoSem.ClaimMapViews
import Derived.JoinedTies
import Derived.KernelRfl
namespace Go.Proofs.Ytfjkmdhkalbpkaa
/- THE CELL 'sum', in the pinned program and in every row, IS THE sha256 OF THE DUMP (.gsa) THAT YtfjkmdhkalbpkaaProg.lean LOADS. Nothing in Lean hashes anything: it is a label: what it is worth is what the hold of that sum in a sandbox is worth. -/
noncomputable def Try.pinned : Pinned := { name := "ytfjkmdhkalbpkaa", sum := "06ddaf9b0002e2d82790ff213b7c0ef95b8898974fee8525d84c696c147448bf", checked := Try.checked }
namespace Rows
def none {H : Type} : Left H := { results := [], args := [] }

/-- 'dustmanlaw07.GraphGone': WHATEVER THE INPUT: true; the input reads as it did. -/
def graphGoneSpec : ChangeSpec := { name := "graphGone", fn := fun _ => fun
  | [d1, d2] => { results := [.lit (.bool true)], args := [d1, d2] }
  | _ => none }
def graphGoneRow : OpenClaim := { program := "ytfjkmdhkalbpkaa", sum := "06ddaf9b0002e2d82790ff213b7c0ef95b8898974fee8525d84c696c147448bf", func := "dustman/dustmanlaw07.GraphGone", spec := "graphGone", recurses := true, apart := false }
def GraphGoneSaid : Prop := graphGoneRow.holds Try.pinned (OpenSpec.ofChange graphGoneSpec)

/-- ITS FALSE NEIGHBOUR: 'it returns false'. Refute it at one input. -/
def graphGoneWrong : ChangeSpec := { name := "graphGone", fn := fun _ => fun
  | [d1, d2] => { results := [.lit (.bool false)], args := [d1, d2] }
  | _ => none }
def GraphGoneWrongFalsely : Prop := graphGoneRow.holds Try.pinned (OpenSpec.ofChange graphGoneWrong)

/-- 'dustmanlaw07.GraphPlays': WHATEVER THE INPUT: true; the input reads as it did. -/
def graphPlaysSpec : ChangeSpec := { name := "graphPlays", fn := fun _ => fun
  | [d1, d2, d3, d4] => { results := [.lit (.bool true)], args := [d1, d2, d3, d4] }
  | _ => none }
def graphPlaysRow : OpenClaim := { program := "ytfjkmdhkalbpkaa", sum := "06ddaf9b0002e2d82790ff213b7c0ef95b8898974fee8525d84c696c147448bf", func := "dustman/dustmanlaw07.GraphPlays", spec := "graphPlays", recurses := true, apart := false }
def GraphPlaysSaid : Prop := graphPlaysRow.holds Try.pinned (OpenSpec.ofChange graphPlaysSpec)

/-- ITS FALSE NEIGHBOUR: 'it returns false'. Refute it at one input. -/
def graphPlaysWrong : ChangeSpec := { name := "graphPlays", fn := fun _ => fun
  | [d1, d2, d3, d4] => { results := [.lit (.bool false)], args := [d1, d2, d3, d4] }
  | _ => none }
def GraphPlaysWrongFalsely : Prop := graphPlaysRow.holds Try.pinned (OpenSpec.ofChange graphPlaysWrong)

/-- 'dustmanlaw07.GraphClosed': WHATEVER THE INPUT: true; the input reads as it did. -/
def graphClosedSpec : ChangeSpec := { name := "graphClosed", fn := fun _ => fun
  | [d] => { results := [.lit (.bool true)], args := [d] }
  | _ => none }
def graphClosedRow : OpenClaim := { program := "ytfjkmdhkalbpkaa", sum := "06ddaf9b0002e2d82790ff213b7c0ef95b8898974fee8525d84c696c147448bf", func := "dustman/dustmanlaw07.GraphClosed", spec := "graphClosed", recurses := true, apart := false }
def GraphClosedSaid : Prop := graphClosedRow.holds Try.pinned (OpenSpec.ofChange graphClosedSpec)

/-- ITS FALSE NEIGHBOUR: 'it returns false'. Refute it at one input. -/
def graphClosedWrong : ChangeSpec := { name := "graphClosed", fn := fun _ => fun
  | [d] => { results := [.lit (.bool false)], args := [d] }
  | _ => none }
def GraphClosedWrongFalsely : Prop := graphClosedRow.holds Try.pinned (OpenSpec.ofChange graphClosedWrong)

/-- 'dustmanlaw07.GraphRefused': WHATEVER THE INPUT: true; the input reads as it did. -/
def graphRefusedSpec : ChangeSpec := { name := "graphRefused", fn := fun _ => fun
  | [d1, d2] => { results := [.lit (.bool true)], args := [d1, d2] }
  | _ => none }
def graphRefusedRow : OpenClaim := { program := "ytfjkmdhkalbpkaa", sum := "06ddaf9b0002e2d82790ff213b7c0ef95b8898974fee8525d84c696c147448bf", func := "dustman/dustmanlaw07.GraphRefused", spec := "graphRefused", recurses := true, apart := false }
def GraphRefusedSaid : Prop := graphRefusedRow.holds Try.pinned (OpenSpec.ofChange graphRefusedSpec)

/-- ITS FALSE NEIGHBOUR: 'it returns false'. Refute it at one input. -/
def graphRefusedWrong : ChangeSpec := { name := "graphRefused", fn := fun _ => fun
  | [d1, d2] => { results := [.lit (.bool false)], args := [d1, d2] }
  | _ => none }
def GraphRefusedWrongFalsely : Prop := graphRefusedRow.holds Try.pinned (OpenSpec.ofChange graphRefusedWrong)

/-- 'dustmanlaw07.GraphOwn': WHATEVER THE INPUT: true; the input reads as it did. -/
def graphOwnSpec : ChangeSpec := { name := "graphOwn", fn := fun _ => fun
  | [d] => { results := [.lit (.bool true)], args := [d] }
  | _ => none }
def graphOwnRow : OpenClaim := { program := "ytfjkmdhkalbpkaa", sum := "06ddaf9b0002e2d82790ff213b7c0ef95b8898974fee8525d84c696c147448bf", func := "dustman/dustmanlaw07.GraphOwn", spec := "graphOwn", recurses := true, apart := false }
def GraphOwnSaid : Prop := graphOwnRow.holds Try.pinned (OpenSpec.ofChange graphOwnSpec)

/-- ITS FALSE NEIGHBOUR: 'it returns false'. Refute it at one input. -/
def graphOwnWrong : ChangeSpec := { name := "graphOwn", fn := fun _ => fun
  | [d] => { results := [.lit (.bool false)], args := [d] }
  | _ => none }
def GraphOwnWrongFalsely : Prop := graphOwnRow.holds Try.pinned (OpenSpec.ofChange graphOwnWrong)

/-- 'dustmanlaw07.GraphWritten': WHATEVER THE INPUT: true; the input reads as it did. -/
def graphWrittenSpec : ChangeSpec := { name := "graphWritten", fn := fun _ => fun
  | [d1, d2, d3, d4] => { results := [.lit (.bool true)], args := [d1, d2, d3, d4] }
  | _ => none }
def graphWrittenRow : OpenClaim := { program := "ytfjkmdhkalbpkaa", sum := "06ddaf9b0002e2d82790ff213b7c0ef95b8898974fee8525d84c696c147448bf", func := "dustman/dustmanlaw07.GraphWritten", spec := "graphWritten", recurses := true, apart := false }
def GraphWrittenSaid : Prop := graphWrittenRow.holds Try.pinned (OpenSpec.ofChange graphWrittenSpec)

/-- ITS FALSE NEIGHBOUR: 'it returns false'. Refute it at one input. -/
def graphWrittenWrong : ChangeSpec := { name := "graphWritten", fn := fun _ => fun
  | [d1, d2, d3, d4] => { results := [.lit (.bool false)], args := [d1, d2, d3, d4] }
  | _ => none }
def GraphWrittenWrongFalsely : Prop := graphWrittenRow.holds Try.pinned (OpenSpec.ofChange graphWrittenWrong)

/-- 'dustmanlaw07.GraphTogether': WHATEVER THE INPUT: true; the input reads as it did. -/
def graphTogetherSpec : ChangeSpec := { name := "graphTogether", fn := fun _ => fun
  | [d1, d2, d3] => { results := [.lit (.bool true)], args := [d1, d2, d3] }
  | _ => none }
def graphTogetherRow : OpenClaim := { program := "ytfjkmdhkalbpkaa", sum := "06ddaf9b0002e2d82790ff213b7c0ef95b8898974fee8525d84c696c147448bf", func := "dustman/dustmanlaw07.GraphTogether", spec := "graphTogether", recurses := true, apart := false }
def GraphTogetherSaid : Prop := graphTogetherRow.holds Try.pinned (OpenSpec.ofChange graphTogetherSpec)

/-- ITS FALSE NEIGHBOUR: 'it returns false'. Refute it at one input. -/
def graphTogetherWrong : ChangeSpec := { name := "graphTogether", fn := fun _ => fun
  | [d1, d2, d3] => { results := [.lit (.bool false)], args := [d1, d2, d3] }
  | _ => none }
def GraphTogetherWrongFalsely : Prop := graphTogetherRow.holds Try.pinned (OpenSpec.ofChange graphTogetherWrong)

/- THE SECOND FORM. 'bulk': how many values and letters a reading holds, each counted each time it is reached (what is shared counts as often as it is met; a slice's spare places count too). A statement '..UptoSaid' is the law's where the arguments, and the package variables that the reading takes, are together of bulk at most 1048576: NARROWER than '..Said'. Prove '..Said' where nothing that the law and all that it calls make is longer than what came in: it says more and counts as full. Else prove '..UptoSaid'. A law counts once. -/
mutual
def uptoBulk {H : Type} : DataW H → Nat
  | .lit (.string bytes) => bytes.length + 1
  | .lit _ => 1
  | .nil => 1
  | .ptr d => uptoBulk d + 1
  | .slice elems spare => uptoBulkAll elems + uptoBulkAll spare + 1
  | .agg parts => uptoBulkAll parts + 1
  | .iface _ d => uptoBulk d + 1
  | .map entries => uptoBulkEntries entries + 1
  | .held _ => 1
def uptoBulkAll {H : Type} : List (DataW H) → Nat
  | [] => 0
  | d :: r => uptoBulk d + uptoBulkAll r
def uptoBulkEntries {H : Type} : List (Lit × DataW H) → Nat
  | [] => 0
  | x :: r => uptoBulkEntry x + uptoBulkEntries r
def uptoBulkEntry {H : Type} : Lit × DataW H → Nat
  | (.string bytes, d) => bytes.length + uptoBulk d + 1
  | (_, d) => uptoBulk d + 1
 end
def uptoSmall : (H : Type) → List (DataW H) → Bool := fun _ ds => decide (uptoBulkAll ds ≤ 1048576)
def OpenSpec.upto (s : _root_.Go.ChangeSpec) : _root_.Go.OpenSpec := { _root_.Go.OpenSpec.ofChange s with cond := some uptoSmall }

/-- 'dustmanlaw07.GraphGone', WHERE WHAT IT READS IS OF BULK AT MOST 1048576: true; the input reads as it did. -/
def graphGoneUptoRow : OpenClaim := { program := "ytfjkmdhkalbpkaa", sum := "06ddaf9b0002e2d82790ff213b7c0ef95b8898974fee8525d84c696c147448bf", func := "dustman/dustmanlaw07.GraphGone", spec := "graphGone", recurses := true, apart := false, narrowed := true }
def GraphGoneUptoSaid : Prop := graphGoneUptoRow.holds Try.pinned (OpenSpec.upto graphGoneSpec)

/-- 'dustmanlaw07.GraphPlays', WHERE WHAT IT READS IS OF BULK AT MOST 1048576: true; the input reads as it did. -/
def graphPlaysUptoRow : OpenClaim := { program := "ytfjkmdhkalbpkaa", sum := "06ddaf9b0002e2d82790ff213b7c0ef95b8898974fee8525d84c696c147448bf", func := "dustman/dustmanlaw07.GraphPlays", spec := "graphPlays", recurses := true, apart := false, narrowed := true }
def GraphPlaysUptoSaid : Prop := graphPlaysUptoRow.holds Try.pinned (OpenSpec.upto graphPlaysSpec)

/-- 'dustmanlaw07.GraphClosed', WHERE WHAT IT READS IS OF BULK AT MOST 1048576: true; the input reads as it did. -/
def graphClosedUptoRow : OpenClaim := { program := "ytfjkmdhkalbpkaa", sum := "06ddaf9b0002e2d82790ff213b7c0ef95b8898974fee8525d84c696c147448bf", func := "dustman/dustmanlaw07.GraphClosed", spec := "graphClosed", recurses := true, apart := false, narrowed := true }
def GraphClosedUptoSaid : Prop := graphClosedUptoRow.holds Try.pinned (OpenSpec.upto graphClosedSpec)

/-- 'dustmanlaw07.GraphRefused', WHERE WHAT IT READS IS OF BULK AT MOST 1048576: true; the input reads as it did. -/
def graphRefusedUptoRow : OpenClaim := { program := "ytfjkmdhkalbpkaa", sum := "06ddaf9b0002e2d82790ff213b7c0ef95b8898974fee8525d84c696c147448bf", func := "dustman/dustmanlaw07.GraphRefused", spec := "graphRefused", recurses := true, apart := false, narrowed := true }
def GraphRefusedUptoSaid : Prop := graphRefusedUptoRow.holds Try.pinned (OpenSpec.upto graphRefusedSpec)

/-- 'dustmanlaw07.GraphOwn', WHERE WHAT IT READS IS OF BULK AT MOST 1048576: true; the input reads as it did. -/
def graphOwnUptoRow : OpenClaim := { program := "ytfjkmdhkalbpkaa", sum := "06ddaf9b0002e2d82790ff213b7c0ef95b8898974fee8525d84c696c147448bf", func := "dustman/dustmanlaw07.GraphOwn", spec := "graphOwn", recurses := true, apart := false, narrowed := true }
def GraphOwnUptoSaid : Prop := graphOwnUptoRow.holds Try.pinned (OpenSpec.upto graphOwnSpec)

/-- 'dustmanlaw07.GraphWritten', WHERE WHAT IT READS IS OF BULK AT MOST 1048576: true; the input reads as it did. -/
def graphWrittenUptoRow : OpenClaim := { program := "ytfjkmdhkalbpkaa", sum := "06ddaf9b0002e2d82790ff213b7c0ef95b8898974fee8525d84c696c147448bf", func := "dustman/dustmanlaw07.GraphWritten", spec := "graphWritten", recurses := true, apart := false, narrowed := true }
def GraphWrittenUptoSaid : Prop := graphWrittenUptoRow.holds Try.pinned (OpenSpec.upto graphWrittenSpec)

/-- 'dustmanlaw07.GraphTogether', WHERE WHAT IT READS IS OF BULK AT MOST 1048576: true; the input reads as it did. -/
def graphTogetherUptoRow : OpenClaim := { program := "ytfjkmdhkalbpkaa", sum := "06ddaf9b0002e2d82790ff213b7c0ef95b8898974fee8525d84c696c147448bf", func := "dustman/dustmanlaw07.GraphTogether", spec := "graphTogether", recurses := true, apart := false, narrowed := true }
def GraphTogetherUptoSaid : Prop := graphTogetherUptoRow.holds Try.pinned (OpenSpec.upto graphTogetherSpec)

end Rows
end Go.Proofs.Ytfjkmdhkalbpkaa
