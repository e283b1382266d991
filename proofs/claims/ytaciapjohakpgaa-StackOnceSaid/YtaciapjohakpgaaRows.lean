/-
  No cell of these rows narrows 'for every input' (looked for: loops, veiled, ifaces, maps, wideKeys, modest, calm, conditions, laid).
  DERIVED. THE GIVEN ROWS OF THIS SEAT. 5 by the template 'for every input the law returns true; each argument reads behind the call as it read before'; 0 by the template 'total and deterministic' (their statements: YtaciapjohakpgaaTotals.lean).
  GIVEN WITH THE SEED: the statements are not yours to turn. If you find one false, say at which input.
  Laid BY PROGRAM, IN A SANDBOX (cutbox-rows.mjs): the forced cells as the released guide's own fill.sh prints them over the translation 69ef74a5ab4e0b51… (all of the seat's roots in one cut). By AI agents, Wed Nov 11 2026. No macro, syntax, notation, axiom, sorry.
-/
import Derived.Test.YtaciapjohakpgaaChecked
import GoSem.Claim
import GoSem.ClaimJoined
import GoSem.ClaimMapViews
import Derived.JoinedTies
import Derived.KernelRfl
namespace Go.Proofs.Ytaciapjohakpgaa
/- THE CELL 'sum', in the pinned program and in every row, IS THE sha256 OF THE DUMP (.gsa) THAT YtaciapjohakpgaaProg.lean LOADS. Nothing in Lean hashes anything: it is a label: what it is worth is what the hold of that sum in a sandbox is worth. -/
noncomputable def Try.pinned : Pinned := { name := "ytaciapjohakpgaa", sum := "69ef74a5ab4e0b51078b94a15bd0d9b943c3165883111cfc98b1e93d4f546222", checked := Try.checked }
namespace Rows
def none {H : Type} : Left H := { results := [], args := [] }

/-- 'dustmanlaw09.StackWalk': WHATEVER THE INPUT: true; the input reads as it did. -/
def stackWalkSpec : ChangeSpec := { name := "stackWalk", fn := fun _ => fun
  | [d1, d2, d3] => { results := [.lit (.bool true)], args := [d1, d2, d3] }
  | _ => none }
def stackWalkRow : OpenClaim := { program := "ytaciapjohakpgaa", sum := "69ef74a5ab4e0b51078b94a15bd0d9b943c3165883111cfc98b1e93d4f546222", func := "dustman/dustmanlaw09.StackWalk", spec := "stackWalk", unfollowed := true, recurses := true, apart := false }
def StackWalkSaid : Prop := stackWalkRow.holds Try.pinned (OpenSpec.ofChange stackWalkSpec)

/-- ITS FALSE NEIGHBOUR: 'it returns false'. Refute it at one input. -/
def stackWalkWrong : ChangeSpec := { name := "stackWalk", fn := fun _ => fun
  | [d1, d2, d3] => { results := [.lit (.bool false)], args := [d1, d2, d3] }
  | _ => none }
def StackWalkWrongFalsely : Prop := stackWalkRow.holds Try.pinned (OpenSpec.ofChange stackWalkWrong)

/-- 'dustmanlaw09.StackFirst': WHATEVER THE INPUT: true; the input reads as it did. -/
def stackFirstSpec : ChangeSpec := { name := "stackFirst", fn := fun _ => fun
  | [d1, d2, d3] => { results := [.lit (.bool true)], args := [d1, d2, d3] }
  | _ => none }
def stackFirstRow : OpenClaim := { program := "ytaciapjohakpgaa", sum := "69ef74a5ab4e0b51078b94a15bd0d9b943c3165883111cfc98b1e93d4f546222", func := "dustman/dustmanlaw09.StackFirst", spec := "stackFirst", unfollowed := true, recurses := true, apart := false }
def StackFirstSaid : Prop := stackFirstRow.holds Try.pinned (OpenSpec.ofChange stackFirstSpec)

/-- ITS FALSE NEIGHBOUR: 'it returns false'. Refute it at one input. -/
def stackFirstWrong : ChangeSpec := { name := "stackFirst", fn := fun _ => fun
  | [d1, d2, d3] => { results := [.lit (.bool false)], args := [d1, d2, d3] }
  | _ => none }
def StackFirstWrongFalsely : Prop := stackFirstRow.holds Try.pinned (OpenSpec.ofChange stackFirstWrong)

/-- 'dustmanlaw09.StackAlone': WHATEVER THE INPUT: true; the input reads as it did. -/
def stackAloneSpec : ChangeSpec := { name := "stackAlone", fn := fun _ => fun
  | [d] => { results := [.lit (.bool true)], args := [d] }
  | _ => none }
def stackAloneRow : OpenClaim := { program := "ytaciapjohakpgaa", sum := "69ef74a5ab4e0b51078b94a15bd0d9b943c3165883111cfc98b1e93d4f546222", func := "dustman/dustmanlaw09.StackAlone", spec := "stackAlone", unfollowed := true, recurses := true, apart := false }
def StackAloneSaid : Prop := stackAloneRow.holds Try.pinned (OpenSpec.ofChange stackAloneSpec)

/-- ITS FALSE NEIGHBOUR: 'it returns false'. Refute it at one input. -/
def stackAloneWrong : ChangeSpec := { name := "stackAlone", fn := fun _ => fun
  | [d] => { results := [.lit (.bool false)], args := [d] }
  | _ => none }
def StackAloneWrongFalsely : Prop := stackAloneRow.holds Try.pinned (OpenSpec.ofChange stackAloneWrong)

/-- 'dustmanlaw09.StackOnce': WHATEVER THE INPUT: true; the input reads as it did. -/
def stackOnceSpec : ChangeSpec := { name := "stackOnce", fn := fun _ => fun
  | [d1, d2] => { results := [.lit (.bool true)], args := [d1, d2] }
  | _ => none }
def stackOnceRow : OpenClaim := { program := "ytaciapjohakpgaa", sum := "69ef74a5ab4e0b51078b94a15bd0d9b943c3165883111cfc98b1e93d4f546222", func := "dustman/dustmanlaw09.StackOnce", spec := "stackOnce", unfollowed := true, recurses := true, apart := false }
def StackOnceSaid : Prop := stackOnceRow.holds Try.pinned (OpenSpec.ofChange stackOnceSpec)

/-- ITS FALSE NEIGHBOUR: 'it returns false'. Refute it at one input. -/
def stackOnceWrong : ChangeSpec := { name := "stackOnce", fn := fun _ => fun
  | [d1, d2] => { results := [.lit (.bool false)], args := [d1, d2] }
  | _ => none }
def StackOnceWrongFalsely : Prop := stackOnceRow.holds Try.pinned (OpenSpec.ofChange stackOnceWrong)

/-- 'dustmanlaw09.StackSteps': WHATEVER THE INPUT: true; the input reads as it did. -/
def stackStepsSpec : ChangeSpec := { name := "stackSteps", fn := fun _ => fun
  | [d1, d2, d3, d4, d5] => { results := [.lit (.bool true)], args := [d1, d2, d3, d4, d5] }
  | _ => none }
def stackStepsRow : OpenClaim := { program := "ytaciapjohakpgaa", sum := "69ef74a5ab4e0b51078b94a15bd0d9b943c3165883111cfc98b1e93d4f546222", func := "dustman/dustmanlaw09.StackSteps", spec := "stackSteps", unfollowed := true, recurses := true, apart := false }
def StackStepsSaid : Prop := stackStepsRow.holds Try.pinned (OpenSpec.ofChange stackStepsSpec)

/-- ITS FALSE NEIGHBOUR: 'it returns false'. Refute it at one input. -/
def stackStepsWrong : ChangeSpec := { name := "stackSteps", fn := fun _ => fun
  | [d1, d2, d3, d4, d5] => { results := [.lit (.bool false)], args := [d1, d2, d3, d4, d5] }
  | _ => none }
def StackStepsWrongFalsely : Prop := stackStepsRow.holds Try.pinned (OpenSpec.ofChange stackStepsWrong)

/- THE SECOND FORM. 'bulk': how many values and letters a reading holds, each counted each time it is reached (what is shared counts as often as it is met; a slice's spare places count too). A statement '..UptoSaid' is the law's where the arguments, and the package variables that the reading takes, are together of bulk at most 1048576: NARROWER than '..Said'. Prove '..Said' where nothing that the law and all that it calls make is longer than what came in: it says more and counts as full. Else prove '..UptoSaid'. A law counts once. -/
mutual
def uptoBulk {H : Type} : DataW H → Nat
  | .lit (.string bytes) => bytes.length + 1
  | .lit _ => 1
  | .nil => 1
  | .ptr d => uptoBulk d + 1
  | .slice elems spare => uptoBulkAll elems + uptoBulkAll spare + 1
  | .agg parts => uptoBulkAll parts + 1
  | .iface _ d => uptoBulk d + 1
  | .map entries => uptoBulkEntries entries + 1
  | .held _ => 1
def uptoBulkAll {H : Type} : List (DataW H) → Nat
  | [] => 0
  | d :: r => uptoBulk d + uptoBulkAll r
def uptoBulkEntries {H : Type} : List (Lit × DataW H) → Nat
  | [] => 0
  | x :: r => uptoBulkEntry x + uptoBulkEntries r
def uptoBulkEntry {H : Type} : Lit × DataW H → Nat
  | (.string bytes, d) => bytes.length + uptoBulk d + 1
  | (_, d) => uptoBulk d + 1
 end
def uptoSmall : (H : Type) → List (DataW H) → Bool := fun _ ds => decide (uptoBulkAll ds ≤ 1048576)
def OpenSpec.upto (s : _root_.Go.ChangeSpec) : _root_.Go.OpenSpec := { _root_.Go.OpenSpec.ofChange s with cond := some uptoSmall }

/-- 'dustmanlaw09.StackWalk', WHERE WHAT IT READS IS OF BULK AT MOST 1048576: true; the input reads as it did. -/
def stackWalkUptoRow : OpenClaim := { program := "ytaciapjohakpgaa", sum := "69ef74a5ab4e0b51078b94a15bd0d9b943c3165883111cfc98b1e93d4f546222", func := "dustman/dustmanlaw09.StackWalk", spec := "stackWalk", unfollowed := true, recurses := true, apart := false, narrowed := true }
def StackWalkUptoSaid : Prop := stackWalkUptoRow.holds Try.pinned (OpenSpec.upto stackWalkSpec)

/-- 'dustmanlaw09.StackFirst', WHERE WHAT IT READS IS OF BULK AT MOST 1048576: true; the input reads as it did. -/
def stackFirstUptoRow : OpenClaim := { program := "ytaciapjohakpgaa", sum := "69ef74a5ab4e0b51078b94a15bd0d9b943c3165883111cfc98b1e93d4f546222", func := "dustman/dustmanlaw09.StackFirst", spec := "stackFirst", unfollowed := true, recurses := true, apart := false, narrowed := true }
def StackFirstUptoSaid : Prop := stackFirstUptoRow.holds Try.pinned (OpenSpec.upto stackFirstSpec)

/-- 'dustmanlaw09.StackAlone', WHERE WHAT IT READS IS OF BULK AT MOST 1048576: true; the input reads as it did. -/
def stackAloneUptoRow : OpenClaim := { program := "ytaciapjohakpgaa", sum := "69ef74a5ab4e0b51078b94a15bd0d9b943c3165883111cfc98b1e93d4f546222", func := "dustman/dustmanlaw09.StackAlone", spec := "stackAlone", unfollowed := true, recurses := true, apart := false, narrowed := true }
def StackAloneUptoSaid : Prop := stackAloneUptoRow.holds Try.pinned (OpenSpec.upto stackAloneSpec)

/-- 'dustmanlaw09.StackOnce', WHERE WHAT IT READS IS OF BULK AT MOST 1048576: true; the input reads as it did. -/
def stackOnceUptoRow : OpenClaim := { program := "ytaciapjohakpgaa", sum := "69ef74a5ab4e0b51078b94a15bd0d9b943c3165883111cfc98b1e93d4f546222", func := "dustman/dustmanlaw09.StackOnce", spec := "stackOnce", unfollowed := true, recurses := true, apart := false, narrowed := true }
def StackOnceUptoSaid : Prop := stackOnceUptoRow.holds Try.pinned (OpenSpec.upto stackOnceSpec)

/-- 'dustmanlaw09.StackSteps', WHERE WHAT IT READS IS OF BULK AT MOST 1048576: true; the input reads as it did. -/
def stackStepsUptoRow : OpenClaim := { program := "ytaciapjohakpgaa", sum := "69ef74a5ab4e0b51078b94a15bd0d9b943c3165883111cfc98b1e93d4f546222", func := "dustman/dustmanlaw09.StackSteps", spec := "stackSteps", unfollowed := true, recurses := true, apart := false, narrowed := true }
def StackStepsUptoSaid : Prop := stackStepsUptoRow.holds Try.pinned (OpenSpec.upto stackStepsSpec)

end Rows
end Go.Proofs.Ytaciapjohakpgaa
