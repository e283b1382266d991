/-
  No cell of these rows narrows 'for every input' (looked for: loops, veiled, ifaces, maps, wideKeys, modest, calm, conditions, laid).
  DERIVED. THE GIVEN ROWS OF THIS SEAT. 5 by the template 'for every input the law returns true; each argument reads behind the call as it read before'; 0 by the template 'total and deterministic' (their statements: YtfcookfocihjlaaTotals.lean).
  GIVEN WITH THE SEED: the statements are not yours to turn. If you find one false, say at which input.
  Laid BY PROGRAM, IN A SANDBOX (cutbox-rows.mjs): the forced cells as the released guide's own fill.sh prints them over the translation 6fee7c91eb5d82f8… (all of the seat's roots in one cut). By AI agents, Wed Nov 11 2026. No macro, syntax, notation, axiom, sorry.
-/
import Derived.Test.YtfcookfocihjlaaChecked
import GoSem.Claim
import GoSem.ClaimJoined
import GoSem.ClaimMapViews
import Derived.JoinedTies
import Derived.KernelRfl
namespace Go.Proofs.Ytfcookfocihjlaa
/- THE CELL 'sum', in the pinned program and in every row, IS THE sha256 OF THE DUMP (.gsa) THAT YtfcookfocihjlaaProg.lean LOADS. Nothing in Lean hashes anything: it is a label: what it is worth is what the hold of that sum in a sandbox is worth. -/
noncomputable def Try.pinned : Pinned := { name := "ytfcookfocihjlaa", sum := "6fee7c91eb5d82f8f71834cf723e7f7aed8346e04e8220511f4af266008ced82", checked := Try.checked }
namespace Rows
def none {H : Type} : Left H := { results := [], args := [] }

/-- 'dustmanlaw12.ClaimLater': WHATEVER THE INPUT: true; the input reads as it did. -/
def claimLaterSpec : ChangeSpec := { name := "claimLater", fn := fun _ => fun
  | [d] => { results := [.lit (.bool true)], args := [d] }
  | _ => none }
def claimLaterRow : OpenClaim := { program := "ytfcookfocihjlaa", sum := "6fee7c91eb5d82f8f71834cf723e7f7aed8346e04e8220511f4af266008ced82", func := "dustman/dustmanlaw12.ClaimLater", spec := "claimLater", unfollowed := true, recurses := true, apart := false }
def ClaimLaterSaid : Prop := claimLaterRow.holds Try.pinned (OpenSpec.ofChange claimLaterSpec)

/-- ITS FALSE NEIGHBOUR: 'it returns false'. Refute it at one input. -/
def claimLaterWrong : ChangeSpec := { name := "claimLater", fn := fun _ => fun
  | [d] => { results := [.lit (.bool false)], args := [d] }
  | _ => none }
def ClaimLaterWrongFalsely : Prop := claimLaterRow.holds Try.pinned (OpenSpec.ofChange claimLaterWrong)

/-- 'dustmanlaw12.ClaimOnce': WHATEVER THE INPUT: true; the input reads as it did. -/
def claimOnceSpec : ChangeSpec := { name := "claimOnce", fn := fun _ => fun
  | [d1, d2, d3, d4] => { results := [.lit (.bool true)], args := [d1, d2, d3, d4] }
  | _ => none }
def claimOnceRow : OpenClaim := { program := "ytfcookfocihjlaa", sum := "6fee7c91eb5d82f8f71834cf723e7f7aed8346e04e8220511f4af266008ced82", func := "dustman/dustmanlaw12.ClaimOnce", spec := "claimOnce", unfollowed := true, recurses := true, apart := false }
def ClaimOnceSaid : Prop := claimOnceRow.holds Try.pinned (OpenSpec.ofChange claimOnceSpec)

/-- ITS FALSE NEIGHBOUR: 'it returns false'. Refute it at one input. -/
def claimOnceWrong : ChangeSpec := { name := "claimOnce", fn := fun _ => fun
  | [d1, d2, d3, d4] => { results := [.lit (.bool false)], args := [d1, d2, d3, d4] }
  | _ => none }
def ClaimOnceWrongFalsely : Prop := claimOnceRow.holds Try.pinned (OpenSpec.ofChange claimOnceWrong)

/-- 'dustmanlaw12.ClaimFour': WHATEVER THE INPUT: true; the input reads as it did. -/
def claimFourSpec : ChangeSpec := { name := "claimFour", fn := fun _ => fun
  | [d1, d2, d3] => { results := [.lit (.bool true)], args := [d1, d2, d3] }
  | _ => none }
def claimFourRow : OpenClaim := { program := "ytfcookfocihjlaa", sum := "6fee7c91eb5d82f8f71834cf723e7f7aed8346e04e8220511f4af266008ced82", func := "dustman/dustmanlaw12.ClaimFour", spec := "claimFour", unfollowed := true, recurses := true, apart := false }
def ClaimFourSaid : Prop := claimFourRow.holds Try.pinned (OpenSpec.ofChange claimFourSpec)

/-- ITS FALSE NEIGHBOUR: 'it returns false'. Refute it at one input. -/
def claimFourWrong : ChangeSpec := { name := "claimFour", fn := fun _ => fun
  | [d1, d2, d3] => { results := [.lit (.bool false)], args := [d1, d2, d3] }
  | _ => none }
def ClaimFourWrongFalsely : Prop := claimFourRow.holds Try.pinned (OpenSpec.ofChange claimFourWrong)

/-- 'dustmanlaw12.ClaimMany': WHATEVER THE INPUT: true; the input reads as it did. -/
def claimManySpec : ChangeSpec := { name := "claimMany", fn := fun _ => fun
  | [d1, d2, d3, d4] => { results := [.lit (.bool true)], args := [d1, d2, d3, d4] }
  | _ => none }
def claimManyRow : OpenClaim := { program := "ytfcookfocihjlaa", sum := "6fee7c91eb5d82f8f71834cf723e7f7aed8346e04e8220511f4af266008ced82", func := "dustman/dustmanlaw12.ClaimMany", spec := "claimMany", unfollowed := true, recurses := true, apart := false }
def ClaimManySaid : Prop := claimManyRow.holds Try.pinned (OpenSpec.ofChange claimManySpec)

/-- ITS FALSE NEIGHBOUR: 'it returns false'. Refute it at one input. -/
def claimManyWrong : ChangeSpec := { name := "claimMany", fn := fun _ => fun
  | [d1, d2, d3, d4] => { results := [.lit (.bool false)], args := [d1, d2, d3, d4] }
  | _ => none }
def ClaimManyWrongFalsely : Prop := claimManyRow.holds Try.pinned (OpenSpec.ofChange claimManyWrong)

/-- 'dustmanlaw12.ClaimSteps': WHATEVER THE INPUT: true; the input reads as it did. -/
def claimStepsSpec : ChangeSpec := { name := "claimSteps", fn := fun _ => fun
  | [d1, d2, d3, d4] => { results := [.lit (.bool true)], args := [d1, d2, d3, d4] }
  | _ => none }
def claimStepsRow : OpenClaim := { program := "ytfcookfocihjlaa", sum := "6fee7c91eb5d82f8f71834cf723e7f7aed8346e04e8220511f4af266008ced82", func := "dustman/dustmanlaw12.ClaimSteps", spec := "claimSteps", unfollowed := true, recurses := true, apart := false }
def ClaimStepsSaid : Prop := claimStepsRow.holds Try.pinned (OpenSpec.ofChange claimStepsSpec)

/-- ITS FALSE NEIGHBOUR: 'it returns false'. Refute it at one input. -/
def claimStepsWrong : ChangeSpec := { name := "claimSteps", fn := fun _ => fun
  | [d1, d2, d3, d4] => { results := [.lit (.bool false)], args := [d1, d2, d3, d4] }
  | _ => none }
def ClaimStepsWrongFalsely : Prop := claimStepsRow.holds Try.pinned (OpenSpec.ofChange claimStepsWrong)

/- THE SECOND FORM. 'bulk': how many values and letters a reading holds, each counted each time it is reached (what is shared counts as often as it is met; a slice's spare places count too). A statement '..UptoSaid' is the law's where the arguments, and the package variables that the reading takes, are together of bulk at most 1048576: NARROWER than '..Said'. Prove '..Said' where nothing that the law and all that it calls make is longer than what came in: it says more and counts as full. Else prove '..UptoSaid'. A law counts once. -/
mutual
def uptoBulk {H : Type} : DataW H → Nat
  | .lit (.string bytes) => bytes.length + 1
  | .lit _ => 1
  | .nil => 1
  | .ptr d => uptoBulk d + 1
  | .slice elems spare => uptoBulkAll elems + uptoBulkAll spare + 1
  | .agg parts => uptoBulkAll parts + 1
  | .iface _ d => uptoBulk d + 1
  | .map entries => uptoBulkEntries entries + 1
  | .held _ => 1
def uptoBulkAll {H : Type} : List (DataW H) → Nat
  | [] => 0
  | d :: r => uptoBulk d + uptoBulkAll r
def uptoBulkEntries {H : Type} : List (Lit × DataW H) → Nat
  | [] => 0
  | x :: r => uptoBulkEntry x + uptoBulkEntries r
def uptoBulkEntry {H : Type} : Lit × DataW H → Nat
  | (.string bytes, d) => bytes.length + uptoBulk d + 1
  | (_, d) => uptoBulk d + 1
 end
def uptoSmall : (H : Type) → List (DataW H) → Bool := fun _ ds => decide (uptoBulkAll ds ≤ 1048576)
def OpenSpec.upto (s : _root_.Go.ChangeSpec) : _root_.Go.OpenSpec := { _root_.Go.OpenSpec.ofChange s with cond := some uptoSmall }

/-- 'dustmanlaw12.ClaimLater', WHERE WHAT IT READS IS OF BULK AT MOST 1048576: true; the input reads as it did. -/
def claimLaterUptoRow : OpenClaim := { program := "ytfcookfocihjlaa", sum := "6fee7c91eb5d82f8f71834cf723e7f7aed8346e04e8220511f4af266008ced82", func := "dustman/dustmanlaw12.ClaimLater", spec := "claimLater", unfollowed := true, recurses := true, apart := false, narrowed := true }
def ClaimLaterUptoSaid : Prop := claimLaterUptoRow.holds Try.pinned (OpenSpec.upto claimLaterSpec)

/-- 'dustmanlaw12.ClaimOnce', WHERE WHAT IT READS IS OF BULK AT MOST 1048576: true; the input reads as it did. -/
def claimOnceUptoRow : OpenClaim := { program := "ytfcookfocihjlaa", sum := "6fee7c91eb5d82f8f71834cf723e7f7aed8346e04e8220511f4af266008ced82", func := "dustman/dustmanlaw12.ClaimOnce", spec := "claimOnce", unfollowed := true, recurses := true, apart := false, narrowed := true }
def ClaimOnceUptoSaid : Prop := claimOnceUptoRow.holds Try.pinned (OpenSpec.upto claimOnceSpec)

/-- 'dustmanlaw12.ClaimFour', WHERE WHAT IT READS IS OF BULK AT MOST 1048576: true; the input reads as it did. -/
def claimFourUptoRow : OpenClaim := { program := "ytfcookfocihjlaa", sum := "6fee7c91eb5d82f8f71834cf723e7f7aed8346e04e8220511f4af266008ced82", func := "dustman/dustmanlaw12.ClaimFour", spec := "claimFour", unfollowed := true, recurses := true, apart := false, narrowed := true }
def ClaimFourUptoSaid : Prop := claimFourUptoRow.holds Try.pinned (OpenSpec.upto claimFourSpec)

/-- 'dustmanlaw12.ClaimMany', WHERE WHAT IT READS IS OF BULK AT MOST 1048576: true; the input reads as it did. -/
def claimManyUptoRow : OpenClaim := { program := "ytfcookfocihjlaa", sum := "6fee7c91eb5d82f8f71834cf723e7f7aed8346e04e8220511f4af266008ced82", func := "dustman/dustmanlaw12.ClaimMany", spec := "claimMany", unfollowed := true, recurses := true, apart := false, narrowed := true }
def ClaimManyUptoSaid : Prop := claimManyUptoRow.holds Try.pinned (OpenSpec.upto claimManySpec)

/-- 'dustmanlaw12.ClaimSteps', WHERE WHAT IT READS IS OF BULK AT MOST 1048576: true; the input reads as it did. -/
def claimStepsUptoRow : OpenClaim := { program := "ytfcookfocihjlaa", sum := "6fee7c91eb5d82f8f71834cf723e7f7aed8346e04e8220511f4af266008ced82", func := "dustman/dustmanlaw12.ClaimSteps", spec := "claimSteps", unfollowed := true, recurses := true, apart := false, narrowed := true }
def ClaimStepsUptoSaid : Prop := claimStepsUptoRow.holds Try.pinned (OpenSpec.upto claimStepsSpec)

end Rows
end Go.Proofs.Ytfcookfocihjlaa
