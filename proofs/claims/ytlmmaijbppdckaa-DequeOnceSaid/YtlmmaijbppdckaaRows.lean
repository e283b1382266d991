/-
  No cell of these rows narrows 'for every input' (looked for: loops, veiled, ifaces, maps, wideKeys, modest, calm, conditions, laid).
  DERIVED. THE GIVEN ROWS OF THIS SEAT. 5 by the template 'for every input the law returns true; each argument reads behind the call as it read before'; 0 by the template 'total and deterministic' (their statements: YtlmmaijbppdckaaTotals.lean).
  GIVEN WITH THE SEED: the statements are not yours to turn. If you find one false, say at which input.
  Laid BY PROGRAM, IN A SANDBOX (cutbox-rows.mjs): the forced cells as the released guide's own fill.sh prints them over the translation 302289ad3a24b0dc… (all of the seat's roots in one cut). By AI agents, Wed Nov 11 2026. No macro, syntax, notation, axiom, sorry.
-/
import Derived.Test.YtlmmaijbppdckaaChecked
import GoSem.Claim
import GoSem.ClaimJoined
import GoSem.ClaimMapViews
import Derived.JoinedTies
import Derived.KernelRfl
namespace Go.Proofs.Ytlmmaijbppdckaa
/- THE CELL 'sum', in the pinned program and in every row, IS THE sha256 OF THE DUMP (.gsa) THAT YtlmmaijbppdckaaProg.lean LOADS. Nothing in Lean hashes anything: it is a label: what it is worth is what the hold of that sum in a sandbox is worth. -/
noncomputable def Try.pinned : Pinned := { name := "ytlmmaijbppdckaa", sum := "302289ad3a24b0dcd27745ccb20ac03378f36e8f62f624c2cc09562628d503cf", checked := Try.checked }
namespace Rows
def none {H : Type} : Left H := { results := [], args := [] }

/-- 'dustmanlaw08.DequeAlone': WHATEVER THE INPUT: true; the input reads as it did. -/
def dequeAloneSpec : ChangeSpec := { name := "dequeAlone", fn := fun _ => fun
  | [d1, d2] => { results := [.lit (.bool true)], args := [d1, d2] }
  | _ => none }
def dequeAloneRow : OpenClaim := { program := "ytlmmaijbppdckaa", sum := "302289ad3a24b0dcd27745ccb20ac03378f36e8f62f624c2cc09562628d503cf", func := "dustman/dustmanlaw08.DequeAlone", spec := "dequeAlone", unfollowed := true, recurses := true, apart := false }
def DequeAloneSaid : Prop := dequeAloneRow.holds Try.pinned (OpenSpec.ofChange dequeAloneSpec)

/-- ITS FALSE NEIGHBOUR: 'it returns false'. Refute it at one input. -/
def dequeAloneWrong : ChangeSpec := { name := "dequeAlone", fn := fun _ => fun
  | [d1, d2] => { results := [.lit (.bool false)], args := [d1, d2] }
  | _ => none }
def DequeAloneWrongFalsely : Prop := dequeAloneRow.holds Try.pinned (OpenSpec.ofChange dequeAloneWrong)

/-- 'dustmanlaw08.DequeOnce': WHATEVER THE INPUT: true; the input reads as it did. -/
def dequeOnceSpec : ChangeSpec := { name := "dequeOnce", fn := fun _ => fun
  | [d1, d2, d3] => { results := [.lit (.bool true)], args := [d1, d2, d3] }
  | _ => none }
def dequeOnceRow : OpenClaim := { program := "ytlmmaijbppdckaa", sum := "302289ad3a24b0dcd27745ccb20ac03378f36e8f62f624c2cc09562628d503cf", func := "dustman/dustmanlaw08.DequeOnce", spec := "dequeOnce", unfollowed := true, recurses := true, apart := false }
def DequeOnceSaid : Prop := dequeOnceRow.holds Try.pinned (OpenSpec.ofChange dequeOnceSpec)

/-- ITS FALSE NEIGHBOUR: 'it returns false'. Refute it at one input. -/
def dequeOnceWrong : ChangeSpec := { name := "dequeOnce", fn := fun _ => fun
  | [d1, d2, d3] => { results := [.lit (.bool false)], args := [d1, d2, d3] }
  | _ => none }
def DequeOnceWrongFalsely : Prop := dequeOnceRow.holds Try.pinned (OpenSpec.ofChange dequeOnceWrong)

/-- 'dustmanlaw08.DequeThieves': WHATEVER THE INPUT: true; the input reads as it did. -/
def dequeThievesSpec : ChangeSpec := { name := "dequeThieves", fn := fun _ => fun
  | [d1, d2] => { results := [.lit (.bool true)], args := [d1, d2] }
  | _ => none }
def dequeThievesRow : OpenClaim := { program := "ytlmmaijbppdckaa", sum := "302289ad3a24b0dcd27745ccb20ac03378f36e8f62f624c2cc09562628d503cf", func := "dustman/dustmanlaw08.DequeThieves", spec := "dequeThieves", unfollowed := true, recurses := true, apart := false }
def DequeThievesSaid : Prop := dequeThievesRow.holds Try.pinned (OpenSpec.ofChange dequeThievesSpec)

/-- ITS FALSE NEIGHBOUR: 'it returns false'. Refute it at one input. -/
def dequeThievesWrong : ChangeSpec := { name := "dequeThieves", fn := fun _ => fun
  | [d1, d2] => { results := [.lit (.bool false)], args := [d1, d2] }
  | _ => none }
def DequeThievesWrongFalsely : Prop := dequeThievesRow.holds Try.pinned (OpenSpec.ofChange dequeThievesWrong)

/-- 'dustmanlaw08.DequeRound': WHATEVER THE INPUT: true; the input reads as it did. -/
def dequeRoundSpec : ChangeSpec := { name := "dequeRound", fn := fun _ => fun
  | [d1, d2] => { results := [.lit (.bool true)], args := [d1, d2] }
  | _ => none }
def dequeRoundRow : OpenClaim := { program := "ytlmmaijbppdckaa", sum := "302289ad3a24b0dcd27745ccb20ac03378f36e8f62f624c2cc09562628d503cf", func := "dustman/dustmanlaw08.DequeRound", spec := "dequeRound", unfollowed := true, recurses := true, apart := false }
def DequeRoundSaid : Prop := dequeRoundRow.holds Try.pinned (OpenSpec.ofChange dequeRoundSpec)

/-- ITS FALSE NEIGHBOUR: 'it returns false'. Refute it at one input. -/
def dequeRoundWrong : ChangeSpec := { name := "dequeRound", fn := fun _ => fun
  | [d1, d2] => { results := [.lit (.bool false)], args := [d1, d2] }
  | _ => none }
def DequeRoundWrongFalsely : Prop := dequeRoundRow.holds Try.pinned (OpenSpec.ofChange dequeRoundWrong)

/-- 'dustmanlaw08.DequeSix': WHATEVER THE INPUT: true; the input reads as it did. -/
def dequeSixSpec : ChangeSpec := { name := "dequeSix", fn := fun _ => fun
  | [d1, d2, d3, d4, d5] => { results := [.lit (.bool true)], args := [d1, d2, d3, d4, d5] }
  | _ => none }
def dequeSixRow : OpenClaim := { program := "ytlmmaijbppdckaa", sum := "302289ad3a24b0dcd27745ccb20ac03378f36e8f62f624c2cc09562628d503cf", func := "dustman/dustmanlaw08.DequeSix", spec := "dequeSix", unfollowed := true, recurses := true, apart := false }
def DequeSixSaid : Prop := dequeSixRow.holds Try.pinned (OpenSpec.ofChange dequeSixSpec)

/-- ITS FALSE NEIGHBOUR: 'it returns false'. Refute it at one input. -/
def dequeSixWrong : ChangeSpec := { name := "dequeSix", fn := fun _ => fun
  | [d1, d2, d3, d4, d5] => { results := [.lit (.bool false)], args := [d1, d2, d3, d4, d5] }
  | _ => none }
def DequeSixWrongFalsely : Prop := dequeSixRow.holds Try.pinned (OpenSpec.ofChange dequeSixWrong)

/- THE SECOND FORM. 'bulk': how many values and letters a reading holds, each counted each time it is reached (what is shared counts as often as it is met; a slice's spare places count too). A statement '..UptoSaid' is the law's where the arguments, and the package variables that the reading takes, are together of bulk at most 1048576: NARROWER than '..Said'. Prove '..Said' where nothing that the law and all that it calls make is longer than what came in: it says more and counts as full. Else prove '..UptoSaid'. A law counts once. -/
mutual
def uptoBulk {H : Type} : DataW H → Nat
  | .lit (.string bytes) => bytes.length + 1
  | .lit _ => 1
  | .nil => 1
  | .ptr d => uptoBulk d + 1
  | .slice elems spare => uptoBulkAll elems + uptoBulkAll spare + 1
  | .agg parts => uptoBulkAll parts + 1
  | .iface _ d => uptoBulk d + 1
  | .map entries => uptoBulkEntries entries + 1
  | .held _ => 1
def uptoBulkAll {H : Type} : List (DataW H) → Nat
  | [] => 0
  | d :: r => uptoBulk d + uptoBulkAll r
def uptoBulkEntries {H : Type} : List (Lit × DataW H) → Nat
  | [] => 0
  | x :: r => uptoBulkEntry x + uptoBulkEntries r
def uptoBulkEntry {H : Type} : Lit × DataW H → Nat
  | (.string bytes, d) => bytes.length + uptoBulk d + 1
  | (_, d) => uptoBulk d + 1
 end
def uptoSmall : (H : Type) → List (DataW H) → Bool := fun _ ds => decide (uptoBulkAll ds ≤ 1048576)
def OpenSpec.upto (s : _root_.Go.ChangeSpec) : _root_.Go.OpenSpec := { _root_.Go.OpenSpec.ofChange s with cond := some uptoSmall }

/-- 'dustmanlaw08.DequeAlone', WHERE WHAT IT READS IS OF BULK AT MOST 1048576: true; the input reads as it did. -/
def dequeAloneUptoRow : OpenClaim := { program := "ytlmmaijbppdckaa", sum := "302289ad3a24b0dcd27745ccb20ac03378f36e8f62f624c2cc09562628d503cf", func := "dustman/dustmanlaw08.DequeAlone", spec := "dequeAlone", unfollowed := true, recurses := true, apart := false, narrowed := true }
def DequeAloneUptoSaid : Prop := dequeAloneUptoRow.holds Try.pinned (OpenSpec.upto dequeAloneSpec)

/-- 'dustmanlaw08.DequeOnce', WHERE WHAT IT READS IS OF BULK AT MOST 1048576: true; the input reads as it did. -/
def dequeOnceUptoRow : OpenClaim := { program := "ytlmmaijbppdckaa", sum := "302289ad3a24b0dcd27745ccb20ac03378f36e8f62f624c2cc09562628d503cf", func := "dustman/dustmanlaw08.DequeOnce", spec := "dequeOnce", unfollowed := true, recurses := true, apart := false, narrowed := true }
def DequeOnceUptoSaid : Prop := dequeOnceUptoRow.holds Try.pinned (OpenSpec.upto dequeOnceSpec)

/-- 'dustmanlaw08.DequeThieves', WHERE WHAT IT READS IS OF BULK AT MOST 1048576: true; the input reads as it did. -/
def dequeThievesUptoRow : OpenClaim := { program := "ytlmmaijbppdckaa", sum := "302289ad3a24b0dcd27745ccb20ac03378f36e8f62f624c2cc09562628d503cf", func := "dustman/dustmanlaw08.DequeThieves", spec := "dequeThieves", unfollowed := true, recurses := true, apart := false, narrowed := true }
def DequeThievesUptoSaid : Prop := dequeThievesUptoRow.holds Try.pinned (OpenSpec.upto dequeThievesSpec)

/-- 'dustmanlaw08.DequeRound', WHERE WHAT IT READS IS OF BULK AT MOST 1048576: true; the input reads as it did. -/
def dequeRoundUptoRow : OpenClaim := { program := "ytlmmaijbppdckaa", sum := "302289ad3a24b0dcd27745ccb20ac03378f36e8f62f624c2cc09562628d503cf", func := "dustman/dustmanlaw08.DequeRound", spec := "dequeRound", unfollowed := true, recurses := true, apart := false, narrowed := true }
def DequeRoundUptoSaid : Prop := dequeRoundUptoRow.holds Try.pinned (OpenSpec.upto dequeRoundSpec)

/-- 'dustmanlaw08.DequeSix', WHERE WHAT IT READS IS OF BULK AT MOST 1048576: true; the input reads as it did. -/
def dequeSixUptoRow : OpenClaim := { program := "ytlmmaijbppdckaa", sum := "302289ad3a24b0dcd27745ccb20ac03378f36e8f62f624c2cc09562628d503cf", func := "dustman/dustmanlaw08.DequeSix", spec := "dequeSix", unfollowed := true, recurses := true, apart := false, narrowed := true }
def DequeSixUptoSaid : Prop := dequeSixUptoRow.holds Try.pinned (OpenSpec.upto dequeSixSpec)

end Rows
end Go.Proofs.Ytlmmaijbppdckaa
