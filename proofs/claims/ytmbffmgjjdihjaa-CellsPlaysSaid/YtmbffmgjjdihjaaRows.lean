/-
  No cell of these rows narrows 'for every input' (looked for: loops, veiled, ifaces, maps, wideKeys, modest, calm, conditions, laid).
  DERIVED. THE GIVEN ROWS OF THIS SEAT. 6 by the template 'for every input the law returns true; each argument reads behind the call as it read before'; 0 by the template 'total and deterministic' (their statements: YtmbffmgjjdihjaaTotals.lean).
  GIVEN WITH THE SEED: the statements are not yours to turn. If you find one false, say at which input.
  Laid BY PROGRAM, IN A SANDBOX (cutbox-rows.mjs): the forced cells as the released guide's own fill.sh prints them over the translation 0b2a7f7079dbb2c2… (all of the seat's roots in one cut). By AI agents, Wed Nov 11 2026. No macro, syntax, notation, axiom, sorry.
-/
import Derived.Test.YtmbffmgjjdihjaaChecked
import GoSem.Claim
import GoSem.ClaimJoined
import GoSem.ClaimMapViews
import Derived.JoinedTies
import Derived.KernelRfl
namespace Go.Proofs.Ytmbffmgjjdihjaa
/- THE CELL 'sum', in the pinned program and in every row, IS THE sha256 OF THE DUMP (.gsa) THAT YtmbffmgjjdihjaaProg.lean LOADS. Nothing in Lean hashes anything: it is a label: what it is worth is what the hold of that sum in a sandbox is worth. -/
noncomputable def Try.pinned : Pinned := { name := "ytmbffmgjjdihjaa", sum := "0b2a7f7079dbb2c289f5254d9a9ade0602889f7da8464d2d1673f91d85571671", checked := Try.checked }
namespace Rows
def none {H : Type} : Left H := { results := [], args := [] }

/-- 'dustmanlaw06.CellsSwap': WHATEVER THE INPUT: true; the input reads as it did. -/
def cellsSwapSpec : ChangeSpec := { name := "cellsSwap", fn := fun _ => fun
  | [d1, d2, d3] => { results := [.lit (.bool true)], args := [d1, d2, d3] }
  | _ => none }
def cellsSwapRow : OpenClaim := { program := "ytmbffmgjjdihjaa", sum := "0b2a7f7079dbb2c289f5254d9a9ade0602889f7da8464d2d1673f91d85571671", func := "dustman/dustmanlaw06.CellsSwap", spec := "cellsSwap", unfollowed := true, recurses := true, apart := false }
def CellsSwapSaid : Prop := cellsSwapRow.holds Try.pinned (OpenSpec.ofChange cellsSwapSpec)

/-- ITS FALSE NEIGHBOUR: 'it returns false'. Refute it at one input. -/
def cellsSwapWrong : ChangeSpec := { name := "cellsSwap", fn := fun _ => fun
  | [d1, d2, d3] => { results := [.lit (.bool false)], args := [d1, d2, d3] }
  | _ => none }
def CellsSwapWrongFalsely : Prop := cellsSwapRow.holds Try.pinned (OpenSpec.ofChange cellsSwapWrong)

/-- 'dustmanlaw06.CellsAdd': WHATEVER THE INPUT: true; the input reads as it did. -/
def cellsAddSpec : ChangeSpec := { name := "cellsAdd", fn := fun _ => fun
  | [d1, d2] => { results := [.lit (.bool true)], args := [d1, d2] }
  | _ => none }
def cellsAddRow : OpenClaim := { program := "ytmbffmgjjdihjaa", sum := "0b2a7f7079dbb2c289f5254d9a9ade0602889f7da8464d2d1673f91d85571671", func := "dustman/dustmanlaw06.CellsAdd", spec := "cellsAdd", unfollowed := true, recurses := true, apart := false }
def CellsAddSaid : Prop := cellsAddRow.holds Try.pinned (OpenSpec.ofChange cellsAddSpec)

/-- ITS FALSE NEIGHBOUR: 'it returns false'. Refute it at one input. -/
def cellsAddWrong : ChangeSpec := { name := "cellsAdd", fn := fun _ => fun
  | [d1, d2] => { results := [.lit (.bool false)], args := [d1, d2] }
  | _ => none }
def CellsAddWrongFalsely : Prop := cellsAddRow.holds Try.pinned (OpenSpec.ofChange cellsAddWrong)

/-- 'dustmanlaw06.CellsPlays': WHATEVER THE INPUT: true; the input reads as it did. -/
def cellsPlaysSpec : ChangeSpec := { name := "cellsPlays", fn := fun _ => fun
  | [d1, d2] => { results := [.lit (.bool true)], args := [d1, d2] }
  | _ => none }
def cellsPlaysRow : OpenClaim := { program := "ytmbffmgjjdihjaa", sum := "0b2a7f7079dbb2c289f5254d9a9ade0602889f7da8464d2d1673f91d85571671", func := "dustman/dustmanlaw06.CellsPlays", spec := "cellsPlays", unfollowed := true, recurses := true, apart := false }
def CellsPlaysSaid : Prop := cellsPlaysRow.holds Try.pinned (OpenSpec.ofChange cellsPlaysSpec)

/-- ITS FALSE NEIGHBOUR: 'it returns false'. Refute it at one input. -/
def cellsPlaysWrong : ChangeSpec := { name := "cellsPlays", fn := fun _ => fun
  | [d1, d2] => { results := [.lit (.bool false)], args := [d1, d2] }
  | _ => none }
def CellsPlaysWrongFalsely : Prop := cellsPlaysRow.holds Try.pinned (OpenSpec.ofChange cellsPlaysWrong)

/-- 'dustmanlaw06.CellsOne': WHATEVER THE INPUT: true; the input reads as it did. -/
def cellsOneSpec : ChangeSpec := { name := "cellsOne", fn := fun _ => fun
  | [d1, d2] => { results := [.lit (.bool true)], args := [d1, d2] }
  | _ => none }
def cellsOneRow : OpenClaim := { program := "ytmbffmgjjdihjaa", sum := "0b2a7f7079dbb2c289f5254d9a9ade0602889f7da8464d2d1673f91d85571671", func := "dustman/dustmanlaw06.CellsOne", spec := "cellsOne", unfollowed := true, recurses := true, apart := false }
def CellsOneSaid : Prop := cellsOneRow.holds Try.pinned (OpenSpec.ofChange cellsOneSpec)

/-- ITS FALSE NEIGHBOUR: 'it returns false'. Refute it at one input. -/
def cellsOneWrong : ChangeSpec := { name := "cellsOne", fn := fun _ => fun
  | [d1, d2] => { results := [.lit (.bool false)], args := [d1, d2] }
  | _ => none }
def CellsOneWrongFalsely : Prop := cellsOneRow.holds Try.pinned (OpenSpec.ofChange cellsOneWrong)

/-- 'dustmanlaw06.CellsApart': WHATEVER THE INPUT: true; the input reads as it did. -/
def cellsApartSpec : ChangeSpec := { name := "cellsApart", fn := fun _ => fun
  | [d1, d2, d3] => { results := [.lit (.bool true)], args := [d1, d2, d3] }
  | _ => none }
def cellsApartRow : OpenClaim := { program := "ytmbffmgjjdihjaa", sum := "0b2a7f7079dbb2c289f5254d9a9ade0602889f7da8464d2d1673f91d85571671", func := "dustman/dustmanlaw06.CellsApart", spec := "cellsApart", unfollowed := true, recurses := true, apart := false }
def CellsApartSaid : Prop := cellsApartRow.holds Try.pinned (OpenSpec.ofChange cellsApartSpec)

/-- ITS FALSE NEIGHBOUR: 'it returns false'. Refute it at one input. -/
def cellsApartWrong : ChangeSpec := { name := "cellsApart", fn := fun _ => fun
  | [d1, d2, d3] => { results := [.lit (.bool false)], args := [d1, d2, d3] }
  | _ => none }
def CellsApartWrongFalsely : Prop := cellsApartRow.holds Try.pinned (OpenSpec.ofChange cellsApartWrong)

/-- 'dustmanlaw06.CellsTurned': WHATEVER THE INPUT: true; the input reads as it did. -/
def cellsTurnedSpec : ChangeSpec := { name := "cellsTurned", fn := fun _ => fun
  | [d1, d2, d3] => { results := [.lit (.bool true)], args := [d1, d2, d3] }
  | _ => none }
def cellsTurnedRow : OpenClaim := { program := "ytmbffmgjjdihjaa", sum := "0b2a7f7079dbb2c289f5254d9a9ade0602889f7da8464d2d1673f91d85571671", func := "dustman/dustmanlaw06.CellsTurned", spec := "cellsTurned", unfollowed := true, recurses := true, apart := false }
def CellsTurnedSaid : Prop := cellsTurnedRow.holds Try.pinned (OpenSpec.ofChange cellsTurnedSpec)

/-- ITS FALSE NEIGHBOUR: 'it returns false'. Refute it at one input. -/
def cellsTurnedWrong : ChangeSpec := { name := "cellsTurned", fn := fun _ => fun
  | [d1, d2, d3] => { results := [.lit (.bool false)], args := [d1, d2, d3] }
  | _ => none }
def CellsTurnedWrongFalsely : Prop := cellsTurnedRow.holds Try.pinned (OpenSpec.ofChange cellsTurnedWrong)

/- THE SECOND FORM. 'bulk': how many values and letters a reading holds, each counted each time it is reached (what is shared counts as often as it is met; a slice's spare places count too). A statement '..UptoSaid' is the law's where the arguments, and the package variables that the reading takes, are together of bulk at most 1048576: NARROWER than '..Said'. Prove '..Said' where nothing that the law and all that it calls make is longer than what came in: it says more and counts as full. Else prove '..UptoSaid'. A law counts once. -/
mutual
def uptoBulk {H : Type} : DataW H → Nat
  | .lit (.string bytes) => bytes.length + 1
  | .lit _ => 1
  | .nil => 1
  | .ptr d => uptoBulk d + 1
  | .slice elems spare => uptoBulkAll elems + uptoBulkAll spare + 1
  | .agg parts => uptoBulkAll parts + 1
  | .iface _ d => uptoBulk d + 1
  | .map entries => uptoBulkEntries entries + 1
  | .held _ => 1
def uptoBulkAll {H : Type} : List (DataW H) → Nat
  | [] => 0
  | d :: r => uptoBulk d + uptoBulkAll r
def uptoBulkEntries {H : Type} : List (Lit × DataW H) → Nat
  | [] => 0
  | x :: r => uptoBulkEntry x + uptoBulkEntries r
def uptoBulkEntry {H : Type} : Lit × DataW H → Nat
  | (.string bytes, d) => bytes.length + uptoBulk d + 1
  | (_, d) => uptoBulk d + 1
 end
def uptoSmall : (H : Type) → List (DataW H) → Bool := fun _ ds => decide (uptoBulkAll ds ≤ 1048576)
def OpenSpec.upto (s : _root_.Go.ChangeSpec) : _root_.Go.OpenSpec := { _root_.Go.OpenSpec.ofChange s with cond := some uptoSmall }

/-- 'dustmanlaw06.CellsSwap', WHERE WHAT IT READS IS OF BULK AT MOST 1048576: true; the input reads as it did. -/
def cellsSwapUptoRow : OpenClaim := { program := "ytmbffmgjjdihjaa", sum := "0b2a7f7079dbb2c289f5254d9a9ade0602889f7da8464d2d1673f91d85571671", func := "dustman/dustmanlaw06.CellsSwap", spec := "cellsSwap", unfollowed := true, recurses := true, apart := false, narrowed := true }
def CellsSwapUptoSaid : Prop := cellsSwapUptoRow.holds Try.pinned (OpenSpec.upto cellsSwapSpec)

/-- 'dustmanlaw06.CellsAdd', WHERE WHAT IT READS IS OF BULK AT MOST 1048576: true; the input reads as it did. -/
def cellsAddUptoRow : OpenClaim := { program := "ytmbffmgjjdihjaa", sum := "0b2a7f7079dbb2c289f5254d9a9ade0602889f7da8464d2d1673f91d85571671", func := "dustman/dustmanlaw06.CellsAdd", spec := "cellsAdd", unfollowed := true, recurses := true, apart := false, narrowed := true }
def CellsAddUptoSaid : Prop := cellsAddUptoRow.holds Try.pinned (OpenSpec.upto cellsAddSpec)

/-- 'dustmanlaw06.CellsPlays', WHERE WHAT IT READS IS OF BULK AT MOST 1048576: true; the input reads as it did. -/
def cellsPlaysUptoRow : OpenClaim := { program := "ytmbffmgjjdihjaa", sum := "0b2a7f7079dbb2c289f5254d9a9ade0602889f7da8464d2d1673f91d85571671", func := "dustman/dustmanlaw06.CellsPlays", spec := "cellsPlays", unfollowed := true, recurses := true, apart := false, narrowed := true }
def CellsPlaysUptoSaid : Prop := cellsPlaysUptoRow.holds Try.pinned (OpenSpec.upto cellsPlaysSpec)

/-- 'dustmanlaw06.CellsOne', WHERE WHAT IT READS IS OF BULK AT MOST 1048576: true; the input reads as it did. -/
def cellsOneUptoRow : OpenClaim := { program := "ytmbffmgjjdihjaa", sum := "0b2a7f7079dbb2c289f5254d9a9ade0602889f7da8464d2d1673f91d85571671", func := "dustman/dustmanlaw06.CellsOne", spec := "cellsOne", unfollowed := true, recurses := true, apart := false, narrowed := true }
def CellsOneUptoSaid : Prop := cellsOneUptoRow.holds Try.pinned (OpenSpec.upto cellsOneSpec)

/-- 'dustmanlaw06.CellsApart', WHERE WHAT IT READS IS OF BULK AT MOST 1048576: true; the input reads as it did. -/
def cellsApartUptoRow : OpenClaim := { program := "ytmbffmgjjdihjaa", sum := "0b2a7f7079dbb2c289f5254d9a9ade0602889f7da8464d2d1673f91d85571671", func := "dustman/dustmanlaw06.CellsApart", spec := "cellsApart", unfollowed := true, recurses := true, apart := false, narrowed := true }
def CellsApartUptoSaid : Prop := cellsApartUptoRow.holds Try.pinned (OpenSpec.upto cellsApartSpec)

/-- 'dustmanlaw06.CellsTurned', WHERE WHAT IT READS IS OF BULK AT MOST 1048576: true; the input reads as it did. -/
def cellsTurnedUptoRow : OpenClaim := { program := "ytmbffmgjjdihjaa", sum := "0b2a7f7079dbb2c289f5254d9a9ade0602889f7da8464d2d1673f91d85571671", func := "dustman/dustmanlaw06.CellsTurned", spec := "cellsTurned", unfollowed := true, recurses := true, apart := false, narrowed := true }
def CellsTurnedUptoSaid : Prop := cellsTurnedUptoRow.holds Try.pinned (OpenSpec.upto cellsTurnedSpec)

end Rows
end Go.Proofs.Ytmbffmgjjdihjaa
