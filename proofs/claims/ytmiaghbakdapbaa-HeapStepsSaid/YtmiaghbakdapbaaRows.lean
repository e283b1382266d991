/-
  No cell of these rows narrows 'for every input' (looked for: loops, veiled, ifaces, maps, wideKeys, modest, calm, conditions, laid).
  DERIVED. THE GIVEN ROWS OF THIS SEAT. 6 by the template 'for every input the law returns true; each argument reads behind the call as it read before'; 0 by the template 'total and deterministic' (their statements: YtmiaghbakdapbaaTotals.lean).
  GIVEN WITH THE SEED: the statements are not yours to turn. If you find one false, say at which input.
  Laid BY PROGRAM, IN A SANDBOX (cutbox-rows.mjs): the forced cells as the released guide's own fill.sh prints them over the translation e0890a2995f1b52b… (all of the seat's roots in one cut). By AI agents, Wed Nov 11 2026. No macro, syntax, notation, axiom, sorry.
-/
import Derived.Test.YtmiaghbakdapbaaChecked
import GoSem.Claim
import GoSem.ClaimJoined
import GoSem.ClaimMapViews
import Derived.JoinedTies
import Derived.KernelRfl
namespace Go.Proofs.Ytmiaghbakdapbaa
/- THE CELL 'sum', in the pinned program and in every row, IS THE sha256 OF THE DUMP (.gsa) THAT YtmiaghbakdapbaaProg.lean LOADS. Nothing in Lean hashes anything: it is a label: what it is worth is what the hold of that sum in a sandbox is worth. -/
noncomputable def Try.pinned : Pinned := { name := "ytmiaghbakdapbaa", sum := "e0890a2995f1b52b95e2c44f2c8519c0d73903b3c6987cb4cf79bd9fc5254e94", checked := Try.checked }
namespace Rows
def none {H : Type} : Left H := { results := [], args := [] }

/-- 'dustmanlaw19.HeapBounds': WHATEVER THE INPUT: true; the input reads as it did. -/
def heapBoundsSpec : ChangeSpec := { name := "heapBounds", fn := fun _ => fun
  | [d1, d2, d3] => { results := [.lit (.bool true)], args := [d1, d2, d3] }
  | _ => none }
def heapBoundsRow : OpenClaim := { program := "ytmiaghbakdapbaa", sum := "e0890a2995f1b52b95e2c44f2c8519c0d73903b3c6987cb4cf79bd9fc5254e94", func := "dustman/dustmanlaw19.HeapBounds", spec := "heapBounds", unfollowed := true, recurses := true, apart := false }
def HeapBoundsSaid : Prop := heapBoundsRow.holds Try.pinned (OpenSpec.ofChange heapBoundsSpec)

/-- ITS FALSE NEIGHBOUR: 'it returns false'. Refute it at one input. -/
def heapBoundsWrong : ChangeSpec := { name := "heapBounds", fn := fun _ => fun
  | [d1, d2, d3] => { results := [.lit (.bool false)], args := [d1, d2, d3] }
  | _ => none }
def HeapBoundsWrongFalsely : Prop := heapBoundsRow.holds Try.pinned (OpenSpec.ofChange heapBoundsWrong)

/-- 'dustmanlaw19.HeapSteps': WHATEVER THE INPUT: true; the input reads as it did. -/
def heapStepsSpec : ChangeSpec := { name := "heapSteps", fn := fun _ => fun
  | [d1, d2, d3, d4, d5] => { results := [.lit (.bool true)], args := [d1, d2, d3, d4, d5] }
  | _ => none }
def heapStepsRow : OpenClaim := { program := "ytmiaghbakdapbaa", sum := "e0890a2995f1b52b95e2c44f2c8519c0d73903b3c6987cb4cf79bd9fc5254e94", func := "dustman/dustmanlaw19.HeapSteps", spec := "heapSteps", unfollowed := true, recurses := true, apart := false }
def HeapStepsSaid : Prop := heapStepsRow.holds Try.pinned (OpenSpec.ofChange heapStepsSpec)

/-- ITS FALSE NEIGHBOUR: 'it returns false'. Refute it at one input. -/
def heapStepsWrong : ChangeSpec := { name := "heapSteps", fn := fun _ => fun
  | [d1, d2, d3, d4, d5] => { results := [.lit (.bool false)], args := [d1, d2, d3, d4, d5] }
  | _ => none }
def HeapStepsWrongFalsely : Prop := heapStepsRow.holds Try.pinned (OpenSpec.ofChange heapStepsWrong)

/-- 'dustmanlaw19.HeapAlone': WHATEVER THE INPUT: true; the input reads as it did. -/
def heapAloneSpec : ChangeSpec := { name := "heapAlone", fn := fun _ => fun
  | [d1, d2, d3] => { results := [.lit (.bool true)], args := [d1, d2, d3] }
  | _ => none }
def heapAloneRow : OpenClaim := { program := "ytmiaghbakdapbaa", sum := "e0890a2995f1b52b95e2c44f2c8519c0d73903b3c6987cb4cf79bd9fc5254e94", func := "dustman/dustmanlaw19.HeapAlone", spec := "heapAlone", unfollowed := true, recurses := true, apart := false }
def HeapAloneSaid : Prop := heapAloneRow.holds Try.pinned (OpenSpec.ofChange heapAloneSpec)

/-- ITS FALSE NEIGHBOUR: 'it returns false'. Refute it at one input. -/
def heapAloneWrong : ChangeSpec := { name := "heapAlone", fn := fun _ => fun
  | [d1, d2, d3] => { results := [.lit (.bool false)], args := [d1, d2, d3] }
  | _ => none }
def HeapAloneWrongFalsely : Prop := heapAloneRow.holds Try.pinned (OpenSpec.ofChange heapAloneWrong)

/-- 'dustmanlaw19.HeapApart': WHATEVER THE INPUT: true; the input reads as it did. -/
def heapApartSpec : ChangeSpec := { name := "heapApart", fn := fun _ => fun
  | [d1, d2, d3] => { results := [.lit (.bool true)], args := [d1, d2, d3] }
  | _ => none }
def heapApartRow : OpenClaim := { program := "ytmiaghbakdapbaa", sum := "e0890a2995f1b52b95e2c44f2c8519c0d73903b3c6987cb4cf79bd9fc5254e94", func := "dustman/dustmanlaw19.HeapApart", spec := "heapApart", unfollowed := true, recurses := true, apart := false }
def HeapApartSaid : Prop := heapApartRow.holds Try.pinned (OpenSpec.ofChange heapApartSpec)

/-- ITS FALSE NEIGHBOUR: 'it returns false'. Refute it at one input. -/
def heapApartWrong : ChangeSpec := { name := "heapApart", fn := fun _ => fun
  | [d1, d2, d3] => { results := [.lit (.bool false)], args := [d1, d2, d3] }
  | _ => none }
def HeapApartWrongFalsely : Prop := heapApartRow.holds Try.pinned (OpenSpec.ofChange heapApartWrong)

/-- 'dustmanlaw19.HeapAgain': WHATEVER THE INPUT: true; the input reads as it did. -/
def heapAgainSpec : ChangeSpec := { name := "heapAgain", fn := fun _ => fun
  | [d1, d2, d3, d4, d5] => { results := [.lit (.bool true)], args := [d1, d2, d3, d4, d5] }
  | _ => none }
def heapAgainRow : OpenClaim := { program := "ytmiaghbakdapbaa", sum := "e0890a2995f1b52b95e2c44f2c8519c0d73903b3c6987cb4cf79bd9fc5254e94", func := "dustman/dustmanlaw19.HeapAgain", spec := "heapAgain", unfollowed := true, recurses := true, apart := false }
def HeapAgainSaid : Prop := heapAgainRow.holds Try.pinned (OpenSpec.ofChange heapAgainSpec)

/-- ITS FALSE NEIGHBOUR: 'it returns false'. Refute it at one input. -/
def heapAgainWrong : ChangeSpec := { name := "heapAgain", fn := fun _ => fun
  | [d1, d2, d3, d4, d5] => { results := [.lit (.bool false)], args := [d1, d2, d3, d4, d5] }
  | _ => none }
def HeapAgainWrongFalsely : Prop := heapAgainRow.holds Try.pinned (OpenSpec.ofChange heapAgainWrong)

/-- 'dustmanlaw19.HeapSwept': WHATEVER THE INPUT: true; the input reads as it did. -/
def heapSweptSpec : ChangeSpec := { name := "heapSwept", fn := fun _ => fun
  | [d1, d2, d3, d4, d5] => { results := [.lit (.bool true)], args := [d1, d2, d3, d4, d5] }
  | _ => none }
def heapSweptRow : OpenClaim := { program := "ytmiaghbakdapbaa", sum := "e0890a2995f1b52b95e2c44f2c8519c0d73903b3c6987cb4cf79bd9fc5254e94", func := "dustman/dustmanlaw19.HeapSwept", spec := "heapSwept", unfollowed := true, recurses := true, apart := false }
def HeapSweptSaid : Prop := heapSweptRow.holds Try.pinned (OpenSpec.ofChange heapSweptSpec)

/-- ITS FALSE NEIGHBOUR: 'it returns false'. Refute it at one input. -/
def heapSweptWrong : ChangeSpec := { name := "heapSwept", fn := fun _ => fun
  | [d1, d2, d3, d4, d5] => { results := [.lit (.bool false)], args := [d1, d2, d3, d4, d5] }
  | _ => none }
def HeapSweptWrongFalsely : Prop := heapSweptRow.holds Try.pinned (OpenSpec.ofChange heapSweptWrong)

/- THE SECOND FORM. 'bulk': how many values and letters a reading holds, each counted each time it is reached (what is shared counts as often as it is met; a slice's spare places count too). A statement '..UptoSaid' is the law's where the arguments, and the package variables that the reading takes, are together of bulk at most 1048576: NARROWER than '..Said'. Prove '..Said' where nothing that the law and all that it calls make is longer than what came in: it says more and counts as full. Else prove '..UptoSaid'. A law counts once. -/
mutual
def uptoBulk {H : Type} : DataW H → Nat
  | .lit (.string bytes) => bytes.length + 1
  | .lit _ => 1
  | .nil => 1
  | .ptr d => uptoBulk d + 1
  | .slice elems spare => uptoBulkAll elems + uptoBulkAll spare + 1
  | .agg parts => uptoBulkAll parts + 1
  | .iface _ d => uptoBulk d + 1
  | .map entries => uptoBulkEntries entries + 1
  | .held _ => 1
def uptoBulkAll {H : Type} : List (DataW H) → Nat
  | [] => 0
  | d :: r => uptoBulk d + uptoBulkAll r
def uptoBulkEntries {H : Type} : List (Lit × DataW H) → Nat
  | [] => 0
  | x :: r => uptoBulkEntry x + uptoBulkEntries r
def uptoBulkEntry {H : Type} : Lit × DataW H → Nat
  | (.string bytes, d) => bytes.length + uptoBulk d + 1
  | (_, d) => uptoBulk d + 1
 end
def uptoSmall : (H : Type) → List (DataW H) → Bool := fun _ ds => decide (uptoBulkAll ds ≤ 1048576)
def OpenSpec.upto (s : _root_.Go.ChangeSpec) : _root_.Go.OpenSpec := { _root_.Go.OpenSpec.ofChange s with cond := some uptoSmall }

/-- 'dustmanlaw19.HeapBounds', WHERE WHAT IT READS IS OF BULK AT MOST 1048576: true; the input reads as it did. -/
def heapBoundsUptoRow : OpenClaim := { program := "ytmiaghbakdapbaa", sum := "e0890a2995f1b52b95e2c44f2c8519c0d73903b3c6987cb4cf79bd9fc5254e94", func := "dustman/dustmanlaw19.HeapBounds", spec := "heapBounds", unfollowed := true, recurses := true, apart := false, narrowed := true }
def HeapBoundsUptoSaid : Prop := heapBoundsUptoRow.holds Try.pinned (OpenSpec.upto heapBoundsSpec)

/-- 'dustmanlaw19.HeapSteps', WHERE WHAT IT READS IS OF BULK AT MOST 1048576: true; the input reads as it did. -/
def heapStepsUptoRow : OpenClaim := { program := "ytmiaghbakdapbaa", sum := "e0890a2995f1b52b95e2c44f2c8519c0d73903b3c6987cb4cf79bd9fc5254e94", func := "dustman/dustmanlaw19.HeapSteps", spec := "heapSteps", unfollowed := true, recurses := true, apart := false, narrowed := true }
def HeapStepsUptoSaid : Prop := heapStepsUptoRow.holds Try.pinned (OpenSpec.upto heapStepsSpec)

/-- 'dustmanlaw19.HeapAlone', WHERE WHAT IT READS IS OF BULK AT MOST 1048576: true; the input reads as it did. -/
def heapAloneUptoRow : OpenClaim := { program := "ytmiaghbakdapbaa", sum := "e0890a2995f1b52b95e2c44f2c8519c0d73903b3c6987cb4cf79bd9fc5254e94", func := "dustman/dustmanlaw19.HeapAlone", spec := "heapAlone", unfollowed := true, recurses := true, apart := false, narrowed := true }
def HeapAloneUptoSaid : Prop := heapAloneUptoRow.holds Try.pinned (OpenSpec.upto heapAloneSpec)

/-- 'dustmanlaw19.HeapApart', WHERE WHAT IT READS IS OF BULK AT MOST 1048576: true; the input reads as it did. -/
def heapApartUptoRow : OpenClaim := { program := "ytmiaghbakdapbaa", sum := "e0890a2995f1b52b95e2c44f2c8519c0d73903b3c6987cb4cf79bd9fc5254e94", func := "dustman/dustmanlaw19.HeapApart", spec := "heapApart", unfollowed := true, recurses := true, apart := false, narrowed := true }
def HeapApartUptoSaid : Prop := heapApartUptoRow.holds Try.pinned (OpenSpec.upto heapApartSpec)

/-- 'dustmanlaw19.HeapAgain', WHERE WHAT IT READS IS OF BULK AT MOST 1048576: true; the input reads as it did. -/
def heapAgainUptoRow : OpenClaim := { program := "ytmiaghbakdapbaa", sum := "e0890a2995f1b52b95e2c44f2c8519c0d73903b3c6987cb4cf79bd9fc5254e94", func := "dustman/dustmanlaw19.HeapAgain", spec := "heapAgain", unfollowed := true, recurses := true, apart := false, narrowed := true }
def HeapAgainUptoSaid : Prop := heapAgainUptoRow.holds Try.pinned (OpenSpec.upto heapAgainSpec)

/-- 'dustmanlaw19.HeapSwept', WHERE WHAT IT READS IS OF BULK AT MOST 1048576: true; the input reads as it did. -/
def heapSweptUptoRow : OpenClaim := { program := "ytmiaghbakdapbaa", sum := "e0890a2995f1b52b95e2c44f2c8519c0d73903b3c6987cb4cf79bd9fc5254e94", func := "dustman/dustmanlaw19.HeapSwept", spec := "heapSwept", unfollowed := true, recurses := true, apart := false, narrowed := true }
def HeapSweptUptoSaid : Prop := heapSweptUptoRow.holds Try.pinned (OpenSpec.upto heapSweptSpec)

end Rows
end Go.Proofs.Ytmiaghbakdapbaa
