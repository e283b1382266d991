/-
  No cell of these rows narrows 'for every input' (looked for: loops, veiled, ifaces, maps, wideKeys, modest, calm, conditions, laid).
  DERIVED. THE GIVEN ROWS OF THIS SEAT. 5 by the template 'for every input the law returns true; each argument reads behind the call as it read before'; 0 by the template 'total and deterministic' (their statements: YtgodnmcfbbchoaaTotals.lean).
  GIVEN WITH THE SEED: the statements are not yours to turn. If you find one false, say at which input.
  Laid BY PROGRAM, IN A SANDBOX (cutbox-rows.mjs): the forced cells as the released guide's own fill.sh prints them over the translation a238d2d524071d5f… (all of the seat's roots in one cut). By AI agents, Wed Nov 11 2026. No macro, syntax, notation, axiom, sorry.
-/
import Derived.Test.YtgodnmcfbbchoaaChecked
import GoSem.Claim
import GoSem.ClaimJoined
import GoSem.ClaimMapViews
import Derived.JoinedTies
import Derived.KernelRfl
namespace Go.Proofs.Ytgodnmcfbbchoaa
/- THE CELL 'sum', in the pinned program and in every row, IS THE sha256 OF THE DUMP (.gsa) THAT YtgodnmcfbbchoaaProg.lean LOADS. Nothing in Lean hashes anything: it is a label: what it is worth is what the hold of that sum in a sandbox is worth. -/
noncomputable def Try.pinned : Pinned := { name := "ytgodnmcfbbchoaa", sum := "a238d2d524071d5f535672028be2da367ed54618b6d3bc1da08ed2a912336490", checked := Try.checked }
namespace Rows
def none {H : Type} : Left H := { results := [], args := [] }

/-- 'dustmanlaw21.DetectorTwice': WHATEVER THE INPUT: true; the input reads as it did. -/
def detectorTwiceSpec : ChangeSpec := { name := "detectorTwice", fn := fun _ => fun
  | [d1, d2] => { results := [.lit (.bool true)], args := [d1, d2] }
  | _ => none }
def detectorTwiceRow : OpenClaim := { program := "ytgodnmcfbbchoaa", sum := "a238d2d524071d5f535672028be2da367ed54618b6d3bc1da08ed2a912336490", func := "dustman/dustmanlaw21.DetectorTwice", spec := "detectorTwice", unfollowed := true, recurses := true, apart := false }
def DetectorTwiceSaid : Prop := detectorTwiceRow.holds Try.pinned (OpenSpec.ofChange detectorTwiceSpec)

/-- ITS FALSE NEIGHBOUR: 'it returns false'. Refute it at one input. -/
def detectorTwiceWrong : ChangeSpec := { name := "detectorTwice", fn := fun _ => fun
  | [d1, d2] => { results := [.lit (.bool false)], args := [d1, d2] }
  | _ => none }
def DetectorTwiceWrongFalsely : Prop := detectorTwiceRow.holds Try.pinned (OpenSpec.ofChange detectorTwiceWrong)

/-- 'dustmanlaw21.DetectorWhole': WHATEVER THE INPUT: true; the input reads as it did. -/
def detectorWholeSpec : ChangeSpec := { name := "detectorWhole", fn := fun _ => fun
  | [d1, d2] => { results := [.lit (.bool true)], args := [d1, d2] }
  | _ => none }
def detectorWholeRow : OpenClaim := { program := "ytgodnmcfbbchoaa", sum := "a238d2d524071d5f535672028be2da367ed54618b6d3bc1da08ed2a912336490", func := "dustman/dustmanlaw21.DetectorWhole", spec := "detectorWhole", unfollowed := true, recurses := true, apart := false }
def DetectorWholeSaid : Prop := detectorWholeRow.holds Try.pinned (OpenSpec.ofChange detectorWholeSpec)

/-- ITS FALSE NEIGHBOUR: 'it returns false'. Refute it at one input. -/
def detectorWholeWrong : ChangeSpec := { name := "detectorWhole", fn := fun _ => fun
  | [d1, d2] => { results := [.lit (.bool false)], args := [d1, d2] }
  | _ => none }
def DetectorWholeWrongFalsely : Prop := detectorWholeRow.holds Try.pinned (OpenSpec.ofChange detectorWholeWrong)

/-- 'dustmanlaw21.DetectorOrder': WHATEVER THE INPUT: true; the input reads as it did. -/
def detectorOrderSpec : ChangeSpec := { name := "detectorOrder", fn := fun _ => fun
  | [d1, d2, d3] => { results := [.lit (.bool true)], args := [d1, d2, d3] }
  | _ => none }
def detectorOrderRow : OpenClaim := { program := "ytgodnmcfbbchoaa", sum := "a238d2d524071d5f535672028be2da367ed54618b6d3bc1da08ed2a912336490", func := "dustman/dustmanlaw21.DetectorOrder", spec := "detectorOrder", unfollowed := true, recurses := true, apart := false }
def DetectorOrderSaid : Prop := detectorOrderRow.holds Try.pinned (OpenSpec.ofChange detectorOrderSpec)

/-- ITS FALSE NEIGHBOUR: 'it returns false'. Refute it at one input. -/
def detectorOrderWrong : ChangeSpec := { name := "detectorOrder", fn := fun _ => fun
  | [d1, d2, d3] => { results := [.lit (.bool false)], args := [d1, d2, d3] }
  | _ => none }
def DetectorOrderWrongFalsely : Prop := detectorOrderRow.holds Try.pinned (OpenSpec.ofChange detectorOrderWrong)

/-- 'dustmanlaw21.DetectorWaits': WHATEVER THE INPUT: true; the input reads as it did. -/
def detectorWaitsSpec : ChangeSpec := { name := "detectorWaits", fn := fun _ => fun
  | [d1, d2, d3, d4] => { results := [.lit (.bool true)], args := [d1, d2, d3, d4] }
  | _ => none }
def detectorWaitsRow : OpenClaim := { program := "ytgodnmcfbbchoaa", sum := "a238d2d524071d5f535672028be2da367ed54618b6d3bc1da08ed2a912336490", func := "dustman/dustmanlaw21.DetectorWaits", spec := "detectorWaits", unfollowed := true, recurses := true, apart := false }
def DetectorWaitsSaid : Prop := detectorWaitsRow.holds Try.pinned (OpenSpec.ofChange detectorWaitsSpec)

/-- ITS FALSE NEIGHBOUR: 'it returns false'. Refute it at one input. -/
def detectorWaitsWrong : ChangeSpec := { name := "detectorWaits", fn := fun _ => fun
  | [d1, d2, d3, d4] => { results := [.lit (.bool false)], args := [d1, d2, d3, d4] }
  | _ => none }
def DetectorWaitsWrongFalsely : Prop := detectorWaitsRow.holds Try.pinned (OpenSpec.ofChange detectorWaitsWrong)

/-- 'dustmanlaw21.DetectorSteps': WHATEVER THE INPUT: true; the input reads as it did. -/
def detectorStepsSpec : ChangeSpec := { name := "detectorSteps", fn := fun _ => fun
  | [d1, d2, d3] => { results := [.lit (.bool true)], args := [d1, d2, d3] }
  | _ => none }
def detectorStepsRow : OpenClaim := { program := "ytgodnmcfbbchoaa", sum := "a238d2d524071d5f535672028be2da367ed54618b6d3bc1da08ed2a912336490", func := "dustman/dustmanlaw21.DetectorSteps", spec := "detectorSteps", unfollowed := true, recurses := true, apart := false }
def DetectorStepsSaid : Prop := detectorStepsRow.holds Try.pinned (OpenSpec.ofChange detectorStepsSpec)

/-- ITS FALSE NEIGHBOUR: 'it returns false'. Refute it at one input. -/
def detectorStepsWrong : ChangeSpec := { name := "detectorSteps", fn := fun _ => fun
  | [d1, d2, d3] => { results := [.lit (.bool false)], args := [d1, d2, d3] }
  | _ => none }
def DetectorStepsWrongFalsely : Prop := detectorStepsRow.holds Try.pinned (OpenSpec.ofChange detectorStepsWrong)

/- THE SECOND FORM. 'bulk': how many values and letters a reading holds, each counted each time it is reached (what is shared counts as often as it is met; a slice's spare places count too). A statement '..UptoSaid' is the law's where the arguments, and the package variables that the reading takes, are together of bulk at most 1048576: NARROWER than '..Said'. Prove '..Said' where nothing that the law and all that it calls make is longer than what came in: it says more and counts as full. Else prove '..UptoSaid'. A law counts once. -/
mutual
def uptoBulk {H : Type} : DataW H → Nat
  | .lit (.string bytes) => bytes.length + 1
  | .lit _ => 1
  | .nil => 1
  | .ptr d => uptoBulk d + 1
  | .slice elems spare => uptoBulkAll elems + uptoBulkAll spare + 1
  | .agg parts => uptoBulkAll parts + 1
  | .iface _ d => uptoBulk d + 1
  | .map entries => uptoBulkEntries entries + 1
  | .held _ => 1
def uptoBulkAll {H : Type} : List (DataW H) → Nat
  | [] => 0
  | d :: r => uptoBulk d + uptoBulkAll r
def uptoBulkEntries {H : Type} : List (Lit × DataW H) → Nat
  | [] => 0
  | x :: r => uptoBulkEntry x + uptoBulkEntries r
def uptoBulkEntry {H : Type} : Lit × DataW H → Nat
  | (.string bytes, d) => bytes.length + uptoBulk d + 1
  | (_, d) => uptoBulk d + 1
 end
def uptoSmall : (H : Type) → List (DataW H) → Bool := fun _ ds => decide (uptoBulkAll ds ≤ 1048576)
def OpenSpec.upto (s : _root_.Go.ChangeSpec) : _root_.Go.OpenSpec := { _root_.Go.OpenSpec.ofChange s with cond := some uptoSmall }

/-- 'dustmanlaw21.DetectorTwice', WHERE WHAT IT READS IS OF BULK AT MOST 1048576: true; the input reads as it did. -/
def detectorTwiceUptoRow : OpenClaim := { program := "ytgodnmcfbbchoaa", sum := "a238d2d524071d5f535672028be2da367ed54618b6d3bc1da08ed2a912336490", func := "dustman/dustmanlaw21.DetectorTwice", spec := "detectorTwice", unfollowed := true, recurses := true, apart := false, narrowed := true }
def DetectorTwiceUptoSaid : Prop := detectorTwiceUptoRow.holds Try.pinned (OpenSpec.upto detectorTwiceSpec)

/-- 'dustmanlaw21.DetectorWhole', WHERE WHAT IT READS IS OF BULK AT MOST 1048576: true; the input reads as it did. -/
def detectorWholeUptoRow : OpenClaim := { program := "ytgodnmcfbbchoaa", sum := "a238d2d524071d5f535672028be2da367ed54618b6d3bc1da08ed2a912336490", func := "dustman/dustmanlaw21.DetectorWhole", spec := "detectorWhole", unfollowed := true, recurses := true, apart := false, narrowed := true }
def DetectorWholeUptoSaid : Prop := detectorWholeUptoRow.holds Try.pinned (OpenSpec.upto detectorWholeSpec)

/-- 'dustmanlaw21.DetectorOrder', WHERE WHAT IT READS IS OF BULK AT MOST 1048576: true; the input reads as it did. -/
def detectorOrderUptoRow : OpenClaim := { program := "ytgodnmcfbbchoaa", sum := "a238d2d524071d5f535672028be2da367ed54618b6d3bc1da08ed2a912336490", func := "dustman/dustmanlaw21.DetectorOrder", spec := "detectorOrder", unfollowed := true, recurses := true, apart := false, narrowed := true }
def DetectorOrderUptoSaid : Prop := detectorOrderUptoRow.holds Try.pinned (OpenSpec.upto detectorOrderSpec)

/-- 'dustmanlaw21.DetectorWaits', WHERE WHAT IT READS IS OF BULK AT MOST 1048576: true; the input reads as it did. -/
def detectorWaitsUptoRow : OpenClaim := { program := "ytgodnmcfbbchoaa", sum := "a238d2d524071d5f535672028be2da367ed54618b6d3bc1da08ed2a912336490", func := "dustman/dustmanlaw21.DetectorWaits", spec := "detectorWaits", unfollowed := true, recurses := true, apart := false, narrowed := true }
def DetectorWaitsUptoSaid : Prop := detectorWaitsUptoRow.holds Try.pinned (OpenSpec.upto detectorWaitsSpec)

/-- 'dustmanlaw21.DetectorSteps', WHERE WHAT IT READS IS OF BULK AT MOST 1048576: true; the input reads as it did. -/
def detectorStepsUptoRow : OpenClaim := { program := "ytgodnmcfbbchoaa", sum := "a238d2d524071d5f535672028be2da367ed54618b6d3bc1da08ed2a912336490", func := "dustman/dustmanlaw21.DetectorSteps", spec := "detectorSteps", unfollowed := true, recurses := true, apart := false, narrowed := true }
def DetectorStepsUptoSaid : Prop := detectorStepsUptoRow.holds Try.pinned (OpenSpec.upto detectorStepsSpec)

end Rows
end Go.Proofs.Ytgodnmcfbbchoaa
