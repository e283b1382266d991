/-
  No cell of these rows narrows 'for every input' (looked for: loops, veiled, ifaces, maps, wideKeys, modest, calm, conditions, laid).
  DERIVED. THE GIVEN ROWS OF THIS SEAT. 7 by the template 'for every input the law returns true; each argument reads behind the call as it read before'; 0 by the template 'total and deterministic' (their statements: YtjfemakkjfpdhaaTotals.lean).
  GIVEN WITH THE SEED: the statements are not yours to turn. If you find one false, say at which input.
  Laid BY PROGRAM, IN A SANDBOX (cutbox-rows.mjs): the forced cells as the released guide's own fill.sh prints them over the translation 9172e4696db57991… (all of the seat's roots in one cut). By AI agents, Wed Nov 11 2026. No macro, syntax, notation, axiom, sorry.
-/
import Derived.Test.YtjfemakkjfpdhaaChecked
import GoSem.Claim
import GoSem.ClaimJoined
import GoSem.ClaimMapViews
import Derived.JoinedTies
import Derived.KernelRfl
namespace Go.Proofs.Ytjfemakkjfpdhaa
/- THE CELL 'sum', in the pinned program and in every row, IS THE sha256 OF THE DUMP (.gsa) THAT YtjfemakkjfpdhaaProg.lean LOADS. Nothing in Lean hashes anything: it is a label: what it is worth is what the hold of that sum in a sandbox is worth. -/
noncomputable def Try.pinned : Pinned := { name := "ytjfemakkjfpdhaa", sum := "9172e4696db57991dd0fa561ee2a6f0c34eacc47a7a59c65626bb1a9b894ef8e", checked := Try.checked }
namespace Rows
def none {H : Type} : Left H := { results := [], args := [] }

/-- 'dustmanlaw05.LayoutChecks': WHATEVER THE INPUT: true; the input reads as it did. -/
def layoutChecksSpec : ChangeSpec := { name := "layoutChecks", fn := fun _ => fun
  | [d] => { results := [.lit (.bool true)], args := [d] }
  | _ => none }
def layoutChecksRow : OpenClaim := { program := "ytjfemakkjfpdhaa", sum := "9172e4696db57991dd0fa561ee2a6f0c34eacc47a7a59c65626bb1a9b894ef8e", func := "dustman/dustmanlaw05.LayoutChecks", spec := "layoutChecks", unfollowed := true, recurses := true, apart := false }
def LayoutChecksSaid : Prop := layoutChecksRow.holds Try.pinned (OpenSpec.ofChange layoutChecksSpec)

/-- ITS FALSE NEIGHBOUR: 'it returns false'. Refute it at one input. -/
def layoutChecksWrong : ChangeSpec := { name := "layoutChecks", fn := fun _ => fun
  | [d] => { results := [.lit (.bool false)], args := [d] }
  | _ => none }
def LayoutChecksWrongFalsely : Prop := layoutChecksRow.holds Try.pinned (OpenSpec.ofChange layoutChecksWrong)

/-- 'dustmanlaw05.LayoutParts': WHATEVER THE INPUT: true; the input reads as it did. -/
def layoutPartsSpec : ChangeSpec := { name := "layoutParts", fn := fun _ => fun
  | [d1, d2] => { results := [.lit (.bool true)], args := [d1, d2] }
  | _ => none }
def layoutPartsRow : OpenClaim := { program := "ytjfemakkjfpdhaa", sum := "9172e4696db57991dd0fa561ee2a6f0c34eacc47a7a59c65626bb1a9b894ef8e", func := "dustman/dustmanlaw05.LayoutParts", spec := "layoutParts", unfollowed := true, recurses := true, apart := false }
def LayoutPartsSaid : Prop := layoutPartsRow.holds Try.pinned (OpenSpec.ofChange layoutPartsSpec)

/-- ITS FALSE NEIGHBOUR: 'it returns false'. Refute it at one input. -/
def layoutPartsWrong : ChangeSpec := { name := "layoutParts", fn := fun _ => fun
  | [d1, d2] => { results := [.lit (.bool false)], args := [d1, d2] }
  | _ => none }
def LayoutPartsWrongFalsely : Prop := layoutPartsRow.holds Try.pinned (OpenSpec.ofChange layoutPartsWrong)

/-- 'dustmanlaw05.LayoutCounts': WHATEVER THE INPUT: true; the input reads as it did. -/
def layoutCountsSpec : ChangeSpec := { name := "layoutCounts", fn := fun _ => fun
  | [d1, d2, d3] => { results := [.lit (.bool true)], args := [d1, d2, d3] }
  | _ => none }
def layoutCountsRow : OpenClaim := { program := "ytjfemakkjfpdhaa", sum := "9172e4696db57991dd0fa561ee2a6f0c34eacc47a7a59c65626bb1a9b894ef8e", func := "dustman/dustmanlaw05.LayoutCounts", spec := "layoutCounts", unfollowed := true, recurses := true, apart := false }
def LayoutCountsSaid : Prop := layoutCountsRow.holds Try.pinned (OpenSpec.ofChange layoutCountsSpec)

/-- ITS FALSE NEIGHBOUR: 'it returns false'. Refute it at one input. -/
def layoutCountsWrong : ChangeSpec := { name := "layoutCounts", fn := fun _ => fun
  | [d1, d2, d3] => { results := [.lit (.bool false)], args := [d1, d2, d3] }
  | _ => none }
def LayoutCountsWrongFalsely : Prop := layoutCountsRow.holds Try.pinned (OpenSpec.ofChange layoutCountsWrong)

/-- 'dustmanlaw05.LayoutPlaces': WHATEVER THE INPUT: true; the input reads as it did. -/
def layoutPlacesSpec : ChangeSpec := { name := "layoutPlaces", fn := fun _ => fun
  | [d1, d2, d3, d4] => { results := [.lit (.bool true)], args := [d1, d2, d3, d4] }
  | _ => none }
def layoutPlacesRow : OpenClaim := { program := "ytjfemakkjfpdhaa", sum := "9172e4696db57991dd0fa561ee2a6f0c34eacc47a7a59c65626bb1a9b894ef8e", func := "dustman/dustmanlaw05.LayoutPlaces", spec := "layoutPlaces", unfollowed := true, recurses := true, apart := false }
def LayoutPlacesSaid : Prop := layoutPlacesRow.holds Try.pinned (OpenSpec.ofChange layoutPlacesSpec)

/-- ITS FALSE NEIGHBOUR: 'it returns false'. Refute it at one input. -/
def layoutPlacesWrong : ChangeSpec := { name := "layoutPlaces", fn := fun _ => fun
  | [d1, d2, d3, d4] => { results := [.lit (.bool false)], args := [d1, d2, d3, d4] }
  | _ => none }
def LayoutPlacesWrongFalsely : Prop := layoutPlacesRow.holds Try.pinned (OpenSpec.ofChange layoutPlacesWrong)

/-- 'dustmanlaw05.LayoutApart': WHATEVER THE INPUT: true; the input reads as it did. -/
def layoutApartSpec : ChangeSpec := { name := "layoutApart", fn := fun _ => fun
  | [d] => { results := [.lit (.bool true)], args := [d] }
  | _ => none }
def layoutApartRow : OpenClaim := { program := "ytjfemakkjfpdhaa", sum := "9172e4696db57991dd0fa561ee2a6f0c34eacc47a7a59c65626bb1a9b894ef8e", func := "dustman/dustmanlaw05.LayoutApart", spec := "layoutApart", unfollowed := true, recurses := true, apart := false }
def LayoutApartSaid : Prop := layoutApartRow.holds Try.pinned (OpenSpec.ofChange layoutApartSpec)

/-- ITS FALSE NEIGHBOUR: 'it returns false'. Refute it at one input. -/
def layoutApartWrong : ChangeSpec := { name := "layoutApart", fn := fun _ => fun
  | [d] => { results := [.lit (.bool false)], args := [d] }
  | _ => none }
def LayoutApartWrongFalsely : Prop := layoutApartRow.holds Try.pinned (OpenSpec.ofChange layoutApartWrong)

/-- 'dustmanlaw05.LayoutFirst': WHATEVER THE INPUT: true; the input reads as it did. -/
def layoutFirstSpec : ChangeSpec := { name := "layoutFirst", fn := fun _ => fun
  | [d] => { results := [.lit (.bool true)], args := [d] }
  | _ => none }
def layoutFirstRow : OpenClaim := { program := "ytjfemakkjfpdhaa", sum := "9172e4696db57991dd0fa561ee2a6f0c34eacc47a7a59c65626bb1a9b894ef8e", func := "dustman/dustmanlaw05.LayoutFirst", spec := "layoutFirst", unfollowed := true, recurses := true, apart := false }
def LayoutFirstSaid : Prop := layoutFirstRow.holds Try.pinned (OpenSpec.ofChange layoutFirstSpec)

/-- ITS FALSE NEIGHBOUR: 'it returns false'. Refute it at one input. -/
def layoutFirstWrong : ChangeSpec := { name := "layoutFirst", fn := fun _ => fun
  | [d] => { results := [.lit (.bool false)], args := [d] }
  | _ => none }
def LayoutFirstWrongFalsely : Prop := layoutFirstRow.holds Try.pinned (OpenSpec.ofChange layoutFirstWrong)

/-- 'dustmanlaw05.LayoutLists': WHATEVER THE INPUT: true; the input reads as it did. -/
def layoutListsSpec : ChangeSpec := { name := "layoutLists", fn := fun _ => fun
  | [d] => { results := [.lit (.bool true)], args := [d] }
  | _ => none }
def layoutListsRow : OpenClaim := { program := "ytjfemakkjfpdhaa", sum := "9172e4696db57991dd0fa561ee2a6f0c34eacc47a7a59c65626bb1a9b894ef8e", func := "dustman/dustmanlaw05.LayoutLists", spec := "layoutLists", unfollowed := true, recurses := true, apart := false }
def LayoutListsSaid : Prop := layoutListsRow.holds Try.pinned (OpenSpec.ofChange layoutListsSpec)

/-- ITS FALSE NEIGHBOUR: 'it returns false'. Refute it at one input. -/
def layoutListsWrong : ChangeSpec := { name := "layoutLists", fn := fun _ => fun
  | [d] => { results := [.lit (.bool false)], args := [d] }
  | _ => none }
def LayoutListsWrongFalsely : Prop := layoutListsRow.holds Try.pinned (OpenSpec.ofChange layoutListsWrong)

/- THE SECOND FORM. 'bulk': how many values and letters a reading holds, each counted each time it is reached (what is shared counts as often as it is met; a slice's spare places count too). A statement '..UptoSaid' is the law's where the arguments, and the package variables that the reading takes, are together of bulk at most 1048576: NARROWER than '..Said'. Prove '..Said' where nothing that the law and all that it calls make is longer than what came in: it says more and counts as full. Else prove '..UptoSaid'. A law counts once. -/
mutual
def uptoBulk {H : Type} : DataW H → Nat
  | .lit (.string bytes) => bytes.length + 1
  | .lit _ => 1
  | .nil => 1
  | .ptr d => uptoBulk d + 1
  | .slice elems spare => uptoBulkAll elems + uptoBulkAll spare + 1
  | .agg parts => uptoBulkAll parts + 1
  | .iface _ d => uptoBulk d + 1
  | .map entries => uptoBulkEntries entries + 1
  | .held _ => 1
def uptoBulkAll {H : Type} : List (DataW H) → Nat
  | [] => 0
  | d :: r => uptoBulk d + uptoBulkAll r
def uptoBulkEntries {H : Type} : List (Lit × DataW H) → Nat
  | [] => 0
  | x :: r => uptoBulkEntry x + uptoBulkEntries r
def uptoBulkEntry {H : Type} : Lit × DataW H → Nat
  | (.string bytes, d) => bytes.length + uptoBulk d + 1
  | (_, d) => uptoBulk d + 1
 end
def uptoSmall : (H : Type) → List (DataW H) → Bool := fun _ ds => decide (uptoBulkAll ds ≤ 1048576)
def OpenSpec.upto (s : _root_.Go.ChangeSpec) : _root_.Go.OpenSpec := { _root_.Go.OpenSpec.ofChange s with cond := some uptoSmall }

/-- 'dustmanlaw05.LayoutChecks', WHERE WHAT IT READS IS OF BULK AT MOST 1048576: true; the input reads as it did. -/
def layoutChecksUptoRow : OpenClaim := { program := "ytjfemakkjfpdhaa", sum := "9172e4696db57991dd0fa561ee2a6f0c34eacc47a7a59c65626bb1a9b894ef8e", func := "dustman/dustmanlaw05.LayoutChecks", spec := "layoutChecks", unfollowed := true, recurses := true, apart := false, narrowed := true }
def LayoutChecksUptoSaid : Prop := layoutChecksUptoRow.holds Try.pinned (OpenSpec.upto layoutChecksSpec)

/-- 'dustmanlaw05.LayoutParts', WHERE WHAT IT READS IS OF BULK AT MOST 1048576: true; the input reads as it did. -/
def layoutPartsUptoRow : OpenClaim := { program := "ytjfemakkjfpdhaa", sum := "9172e4696db57991dd0fa561ee2a6f0c34eacc47a7a59c65626bb1a9b894ef8e", func := "dustman/dustmanlaw05.LayoutParts", spec := "layoutParts", unfollowed := true, recurses := true, apart := false, narrowed := true }
def LayoutPartsUptoSaid : Prop := layoutPartsUptoRow.holds Try.pinned (OpenSpec.upto layoutPartsSpec)

/-- 'dustmanlaw05.LayoutCounts', WHERE WHAT IT READS IS OF BULK AT MOST 1048576: true; the input reads as it did. -/
def layoutCountsUptoRow : OpenClaim := { program := "ytjfemakkjfpdhaa", sum := "9172e4696db57991dd0fa561ee2a6f0c34eacc47a7a59c65626bb1a9b894ef8e", func := "dustman/dustmanlaw05.LayoutCounts", spec := "layoutCounts", unfollowed := true, recurses := true, apart := false, narrowed := true }
def LayoutCountsUptoSaid : Prop := layoutCountsUptoRow.holds Try.pinned (OpenSpec.upto layoutCountsSpec)

/-- 'dustmanlaw05.LayoutPlaces', WHERE WHAT IT READS IS OF BULK AT MOST 1048576: true; the input reads as it did. -/
def layoutPlacesUptoRow : OpenClaim := { program := "ytjfemakkjfpdhaa", sum := "9172e4696db57991dd0fa561ee2a6f0c34eacc47a7a59c65626bb1a9b894ef8e", func := "dustman/dustmanlaw05.LayoutPlaces", spec := "layoutPlaces", unfollowed := true, recurses := true, apart := false, narrowed := true }
def LayoutPlacesUptoSaid : Prop := layoutPlacesUptoRow.holds Try.pinned (OpenSpec.upto layoutPlacesSpec)

/-- 'dustmanlaw05.LayoutApart', WHERE WHAT IT READS IS OF BULK AT MOST 1048576: true; the input reads as it did. -/
def layoutApartUptoRow : OpenClaim := { program := "ytjfemakkjfpdhaa", sum := "9172e4696db57991dd0fa561ee2a6f0c34eacc47a7a59c65626bb1a9b894ef8e", func := "dustman/dustmanlaw05.LayoutApart", spec := "layoutApart", unfollowed := true, recurses := true, apart := false, narrowed := true }
def LayoutApartUptoSaid : Prop := layoutApartUptoRow.holds Try.pinned (OpenSpec.upto layoutApartSpec)

/-- 'dustmanlaw05.LayoutFirst', WHERE WHAT IT READS IS OF BULK AT MOST 1048576: true; the input reads as it did. -/
def layoutFirstUptoRow : OpenClaim := { program := "ytjfemakkjfpdhaa", sum := "9172e4696db57991dd0fa561ee2a6f0c34eacc47a7a59c65626bb1a9b894ef8e", func := "dustman/dustmanlaw05.LayoutFirst", spec := "layoutFirst", unfollowed := true, recurses := true, apart := false, narrowed := true }
def LayoutFirstUptoSaid : Prop := layoutFirstUptoRow.holds Try.pinned (OpenSpec.upto layoutFirstSpec)

/-- 'dustmanlaw05.LayoutLists', WHERE WHAT IT READS IS OF BULK AT MOST 1048576: true; the input reads as it did. -/
def layoutListsUptoRow : OpenClaim := { program := "ytjfemakkjfpdhaa", sum := "9172e4696db57991dd0fa561ee2a6f0c34eacc47a7a59c65626bb1a9b894ef8e", func := "dustman/dustmanlaw05.LayoutLists", spec := "layoutLists", unfollowed := true, recurses := true, apart := false, narrowed := true }
def LayoutListsUptoSaid : Prop := layoutListsUptoRow.holds Try.pinned (OpenSpec.upto layoutListsSpec)

end Rows
end Go.Proofs.Ytjfemakkjfpdhaa
