/-
  No cell of these rows narrows 'for every input' (looked for: loops, veiled, ifaces, maps, wideKeys, modest, calm, conditions, laid).
  DERIVED. THE GIVEN ROWS OF THIS SEAT. 11 by the template 'for every input the law returns true; each argument reads behind the call as it read before'; 0 by the template 'total and deterministic' (their statements: YtiokngcpbakaaaaTotals.lean).
  GIVEN WITH THE SEED: the statements are not yours to turn. If you find one false, say at which input.
  Laid BY PROGRAM, IN A SANDBOX (cutbox-rows.mjs): the forced cells as the released guide's own fill.sh prints them over the translation fac29e46537af4e8… (all of the seat's roots in one cut). By AI agents, Wed Nov 11 2026. No macro, syntax, notation, axiom, sorry.
-/
import Derived.Test.YtiokngcpbakaaaaChecked
import GoSem.Claim
import GoSem.ClaimJoined
import GoSem.ClaimMapViews
import Derived.JoinedTies
import Derived.KernelRfl
namespace Go.Proofs.Ytiokngcpbakaaaa
/- THE CELL 'sum', in the pinned program and in every row, IS THE sha256 OF THE DUMP (.gsa) THAT YtiokngcpbakaaaaProg.lean LOADS. Nothing in Lean hashes anything: it is a label: what it is worth is what the hold of that sum in a sandbox is worth. -/
noncomputable def Try.pinned : Pinned := { name := "ytiokngcpbakaaaa", sum := "fac29e46537af4e85b46ed75e9649a78712b0adeb4188be2319f2beb76aa8fba", checked := Try.checked }
namespace Rows
def none {H : Type} : Left H := { results := [], args := [] }

/-- 'dustmanlaw01.WordsPhase': WHATEVER THE INPUT: true; the input reads as it did. -/
def wordsPhaseSpec : ChangeSpec := { name := "wordsPhase", fn := fun _ => fun
  | [d1, d2, d3] => { results := [.lit (.bool true)], args := [d1, d2, d3] }
  | _ => none }
def wordsPhaseRow : OpenClaim := { program := "ytiokngcpbakaaaa", sum := "fac29e46537af4e85b46ed75e9649a78712b0adeb4188be2319f2beb76aa8fba", func := "dustman/dustmanlaw01.WordsPhase", spec := "wordsPhase", unfollowed := true, recurses := true, apart := false }
def WordsPhaseSaid : Prop := wordsPhaseRow.holds Try.pinned (OpenSpec.ofChange wordsPhaseSpec)

/-- ITS FALSE NEIGHBOUR: 'it returns false'. Refute it at one input. -/
def wordsPhaseWrong : ChangeSpec := { name := "wordsPhase", fn := fun _ => fun
  | [d1, d2, d3] => { results := [.lit (.bool false)], args := [d1, d2, d3] }
  | _ => none }
def WordsPhaseWrongFalsely : Prop := wordsPhaseRow.holds Try.pinned (OpenSpec.ofChange wordsPhaseWrong)

/-- 'dustmanlaw01.WordsPair': WHATEVER THE INPUT: true; the input reads as it did. -/
def wordsPairSpec : ChangeSpec := { name := "wordsPair", fn := fun _ => fun
  | [d1, d2, d3] => { results := [.lit (.bool true)], args := [d1, d2, d3] }
  | _ => none }
def wordsPairRow : OpenClaim := { program := "ytiokngcpbakaaaa", sum := "fac29e46537af4e85b46ed75e9649a78712b0adeb4188be2319f2beb76aa8fba", func := "dustman/dustmanlaw01.WordsPair", spec := "wordsPair", unfollowed := true, recurses := true, apart := false }
def WordsPairSaid : Prop := wordsPairRow.holds Try.pinned (OpenSpec.ofChange wordsPairSpec)

/-- ITS FALSE NEIGHBOUR: 'it returns false'. Refute it at one input. -/
def wordsPairWrong : ChangeSpec := { name := "wordsPair", fn := fun _ => fun
  | [d1, d2, d3] => { results := [.lit (.bool false)], args := [d1, d2, d3] }
  | _ => none }
def WordsPairWrongFalsely : Prop := wordsPairRow.holds Try.pinned (OpenSpec.ofChange wordsPairWrong)

/-- 'dustmanlaw01.WordsAhead': WHATEVER THE INPUT: true; the input reads as it did. -/
def wordsAheadSpec : ChangeSpec := { name := "wordsAhead", fn := fun _ => fun
  | [d1, d2] => { results := [.lit (.bool true)], args := [d1, d2] }
  | _ => none }
def wordsAheadRow : OpenClaim := { program := "ytiokngcpbakaaaa", sum := "fac29e46537af4e85b46ed75e9649a78712b0adeb4188be2319f2beb76aa8fba", func := "dustman/dustmanlaw01.WordsAhead", spec := "wordsAhead", unfollowed := true, recurses := true, apart := false }
def WordsAheadSaid : Prop := wordsAheadRow.holds Try.pinned (OpenSpec.ofChange wordsAheadSpec)

/-- ITS FALSE NEIGHBOUR: 'it returns false'. Refute it at one input. -/
def wordsAheadWrong : ChangeSpec := { name := "wordsAhead", fn := fun _ => fun
  | [d1, d2] => { results := [.lit (.bool false)], args := [d1, d2] }
  | _ => none }
def WordsAheadWrongFalsely : Prop := wordsAheadRow.holds Try.pinned (OpenSpec.ofChange wordsAheadWrong)

/-- 'dustmanlaw01.WordsBack': WHATEVER THE INPUT: true; the input reads as it did. -/
def wordsBackSpec : ChangeSpec := { name := "wordsBack", fn := fun _ => fun
  | [d1, d2, d3, d4, d5] => { results := [.lit (.bool true)], args := [d1, d2, d3, d4, d5] }
  | _ => none }
def wordsBackRow : OpenClaim := { program := "ytiokngcpbakaaaa", sum := "fac29e46537af4e85b46ed75e9649a78712b0adeb4188be2319f2beb76aa8fba", func := "dustman/dustmanlaw01.WordsBack", spec := "wordsBack", unfollowed := true, recurses := true, apart := false }
def WordsBackSaid : Prop := wordsBackRow.holds Try.pinned (OpenSpec.ofChange wordsBackSpec)

/-- ITS FALSE NEIGHBOUR: 'it returns false'. Refute it at one input. -/
def wordsBackWrong : ChangeSpec := { name := "wordsBack", fn := fun _ => fun
  | [d1, d2, d3, d4, d5] => { results := [.lit (.bool false)], args := [d1, d2, d3, d4, d5] }
  | _ => none }
def WordsBackWrongFalsely : Prop := wordsBackRow.holds Try.pinned (OpenSpec.ofChange wordsBackWrong)

/-- 'dustmanlaw01.WordsTurn': WHATEVER THE INPUT: true; the input reads as it did. -/
def wordsTurnSpec : ChangeSpec := { name := "wordsTurn", fn := fun _ => fun
  | [d1, d2, d3] => { results := [.lit (.bool true)], args := [d1, d2, d3] }
  | _ => none }
def wordsTurnRow : OpenClaim := { program := "ytiokngcpbakaaaa", sum := "fac29e46537af4e85b46ed75e9649a78712b0adeb4188be2319f2beb76aa8fba", func := "dustman/dustmanlaw01.WordsTurn", spec := "wordsTurn", unfollowed := true, recurses := true, apart := false }
def WordsTurnSaid : Prop := wordsTurnRow.holds Try.pinned (OpenSpec.ofChange wordsTurnSpec)

/-- ITS FALSE NEIGHBOUR: 'it returns false'. Refute it at one input. -/
def wordsTurnWrong : ChangeSpec := { name := "wordsTurn", fn := fun _ => fun
  | [d1, d2, d3] => { results := [.lit (.bool false)], args := [d1, d2, d3] }
  | _ => none }
def WordsTurnWrongFalsely : Prop := wordsTurnRow.holds Try.pinned (OpenSpec.ofChange wordsTurnWrong)

/-- 'dustmanlaw01.WordsOrder': WHATEVER THE INPUT: true; the input reads as it did. -/
def wordsOrderSpec : ChangeSpec := { name := "wordsOrder", fn := fun _ => fun
  | [d1, d2, d3, d4, d5, d6, d7] => { results := [.lit (.bool true)], args := [d1, d2, d3, d4, d5, d6, d7] }
  | _ => none }
def wordsOrderRow : OpenClaim := { program := "ytiokngcpbakaaaa", sum := "fac29e46537af4e85b46ed75e9649a78712b0adeb4188be2319f2beb76aa8fba", func := "dustman/dustmanlaw01.WordsOrder", spec := "wordsOrder", unfollowed := true, recurses := true, apart := false }
def WordsOrderSaid : Prop := wordsOrderRow.holds Try.pinned (OpenSpec.ofChange wordsOrderSpec)

/-- ITS FALSE NEIGHBOUR: 'it returns false'. Refute it at one input. -/
def wordsOrderWrong : ChangeSpec := { name := "wordsOrder", fn := fun _ => fun
  | [d1, d2, d3, d4, d5, d6, d7] => { results := [.lit (.bool false)], args := [d1, d2, d3, d4, d5, d6, d7] }
  | _ => none }
def WordsOrderWrongFalsely : Prop := wordsOrderRow.holds Try.pinned (OpenSpec.ofChange wordsOrderWrong)

/-- 'dustmanlaw02.SizesOf': WHATEVER THE INPUT: true; the input reads as it did. -/
def sizesOfSpec : ChangeSpec := { name := "sizesOf", fn := fun _ => fun
  | [d1, d2] => { results := [.lit (.bool true)], args := [d1, d2] }
  | _ => none }
def sizesOfRow : OpenClaim := { program := "ytiokngcpbakaaaa", sum := "fac29e46537af4e85b46ed75e9649a78712b0adeb4188be2319f2beb76aa8fba", func := "dustman/dustmanlaw02.SizesOf", spec := "sizesOf", apart := false }
def SizesOfSaid : Prop := sizesOfRow.holds Try.pinned (OpenSpec.ofChange sizesOfSpec)

/-- ITS FALSE NEIGHBOUR: 'it returns false'. Refute it at one input. -/
def sizesOfWrong : ChangeSpec := { name := "sizesOf", fn := fun _ => fun
  | [d1, d2] => { results := [.lit (.bool false)], args := [d1, d2] }
  | _ => none }
def SizesOfWrongFalsely : Prop := sizesOfRow.holds Try.pinned (OpenSpec.ofChange sizesOfWrong)

/-- 'dustmanlaw02.SizesCells': WHATEVER THE INPUT: true; the input reads as it did. -/
def sizesCellsSpec : ChangeSpec := { name := "sizesCells", fn := fun _ => fun
  | [d1, d2] => { results := [.lit (.bool true)], args := [d1, d2] }
  | _ => none }
def sizesCellsRow : OpenClaim := { program := "ytiokngcpbakaaaa", sum := "fac29e46537af4e85b46ed75e9649a78712b0adeb4188be2319f2beb76aa8fba", func := "dustman/dustmanlaw02.SizesCells", spec := "sizesCells", apart := false }
def SizesCellsSaid : Prop := sizesCellsRow.holds Try.pinned (OpenSpec.ofChange sizesCellsSpec)

/-- ITS FALSE NEIGHBOUR: 'it returns false'. Refute it at one input. -/
def sizesCellsWrong : ChangeSpec := { name := "sizesCells", fn := fun _ => fun
  | [d1, d2] => { results := [.lit (.bool false)], args := [d1, d2] }
  | _ => none }
def SizesCellsWrongFalsely : Prop := sizesCellsRow.holds Try.pinned (OpenSpec.ofChange sizesCellsWrong)

/-- 'dustmanlaw02.SizesLeast': WHATEVER THE INPUT: true; the input reads as it did. -/
def sizesLeastSpec : ChangeSpec := { name := "sizesLeast", fn := fun _ => fun
  | [d] => { results := [.lit (.bool true)], args := [d] }
  | _ => none }
def sizesLeastRow : OpenClaim := { program := "ytiokngcpbakaaaa", sum := "fac29e46537af4e85b46ed75e9649a78712b0adeb4188be2319f2beb76aa8fba", func := "dustman/dustmanlaw02.SizesLeast", spec := "sizesLeast", apart := false }
def SizesLeastSaid : Prop := sizesLeastRow.holds Try.pinned (OpenSpec.ofChange sizesLeastSpec)

/-- ITS FALSE NEIGHBOUR: 'it returns false'. Refute it at one input. -/
def sizesLeastWrong : ChangeSpec := { name := "sizesLeast", fn := fun _ => fun
  | [d] => { results := [.lit (.bool false)], args := [d] }
  | _ => none }
def SizesLeastWrongFalsely : Prop := sizesLeastRow.holds Try.pinned (OpenSpec.ofChange sizesLeastWrong)

/-- 'dustmanlaw02.SizesOrder': WHATEVER THE INPUT: true; the input reads as it did. -/
def sizesOrderSpec : ChangeSpec := { name := "sizesOrder", fn := fun _ => fun
  | [d1, d2] => { results := [.lit (.bool true)], args := [d1, d2] }
  | _ => none }
def sizesOrderRow : OpenClaim := { program := "ytiokngcpbakaaaa", sum := "fac29e46537af4e85b46ed75e9649a78712b0adeb4188be2319f2beb76aa8fba", func := "dustman/dustmanlaw02.SizesOrder", spec := "sizesOrder", apart := false }
def SizesOrderSaid : Prop := sizesOrderRow.holds Try.pinned (OpenSpec.ofChange sizesOrderSpec)

/-- ITS FALSE NEIGHBOUR: 'it returns false'. Refute it at one input. -/
def sizesOrderWrong : ChangeSpec := { name := "sizesOrder", fn := fun _ => fun
  | [d1, d2] => { results := [.lit (.bool false)], args := [d1, d2] }
  | _ => none }
def SizesOrderWrongFalsely : Prop := sizesOrderRow.holds Try.pinned (OpenSpec.ofChange sizesOrderWrong)

/-- 'dustmanlaw02.SizesFit': WHATEVER THE INPUT: true; the input reads as it did. -/
def sizesFitSpec : ChangeSpec := { name := "sizesFit", fn := fun _ => fun
  | [d1, d2] => { results := [.lit (.bool true)], args := [d1, d2] }
  | _ => none }
def sizesFitRow : OpenClaim := { program := "ytiokngcpbakaaaa", sum := "fac29e46537af4e85b46ed75e9649a78712b0adeb4188be2319f2beb76aa8fba", func := "dustman/dustmanlaw02.SizesFit", spec := "sizesFit", apart := false }
def SizesFitSaid : Prop := sizesFitRow.holds Try.pinned (OpenSpec.ofChange sizesFitSpec)

/-- ITS FALSE NEIGHBOUR: 'it returns false'. Refute it at one input. -/
def sizesFitWrong : ChangeSpec := { name := "sizesFit", fn := fun _ => fun
  | [d1, d2] => { results := [.lit (.bool false)], args := [d1, d2] }
  | _ => none }
def SizesFitWrongFalsely : Prop := sizesFitRow.holds Try.pinned (OpenSpec.ofChange sizesFitWrong)

/- THE SECOND FORM. 'bulk': how many values and letters a reading holds, each counted each time it is reached (what is shared counts as often as it is met; a slice's spare places count too). A statement '..UptoSaid' is the law's where the arguments, and the package variables that the reading takes, are together of bulk at most 1048576: NARROWER than '..Said'. Prove '..Said' where nothing that the law and all that it calls make is longer than what came in: it says more and counts as full. Else prove '..UptoSaid'. A law counts once. -/
mutual
def uptoBulk {H : Type} : DataW H → Nat
  | .lit (.string bytes) => bytes.length + 1
  | .lit _ => 1
  | .nil => 1
  | .ptr d => uptoBulk d + 1
  | .slice elems spare => uptoBulkAll elems + uptoBulkAll spare + 1
  | .agg parts => uptoBulkAll parts + 1
  | .iface _ d => uptoBulk d + 1
  | .map entries => uptoBulkEntries entries + 1
  | .held _ => 1
def uptoBulkAll {H : Type} : List (DataW H) → Nat
  | [] => 0
  | d :: r => uptoBulk d + uptoBulkAll r
def uptoBulkEntries {H : Type} : List (Lit × DataW H) → Nat
  | [] => 0
  | x :: r => uptoBulkEntry x + uptoBulkEntries r
def uptoBulkEntry {H : Type} : Lit × DataW H → Nat
  | (.string bytes, d) => bytes.length + uptoBulk d + 1
  | (_, d) => uptoBulk d + 1
 end
def uptoSmall : (H : Type) → List (DataW H) → Bool := fun _ ds => decide (uptoBulkAll ds ≤ 1048576)
def OpenSpec.upto (s : _root_.Go.ChangeSpec) : _root_.Go.OpenSpec := { _root_.Go.OpenSpec.ofChange s with cond := some uptoSmall }

/-- 'dustmanlaw01.WordsPhase', WHERE WHAT IT READS IS OF BULK AT MOST 1048576: true; the input reads as it did. -/
def wordsPhaseUptoRow : OpenClaim := { program := "ytiokngcpbakaaaa", sum := "fac29e46537af4e85b46ed75e9649a78712b0adeb4188be2319f2beb76aa8fba", func := "dustman/dustmanlaw01.WordsPhase", spec := "wordsPhase", unfollowed := true, recurses := true, apart := false, narrowed := true }
def WordsPhaseUptoSaid : Prop := wordsPhaseUptoRow.holds Try.pinned (OpenSpec.upto wordsPhaseSpec)

/-- 'dustmanlaw01.WordsPair', WHERE WHAT IT READS IS OF BULK AT MOST 1048576: true; the input reads as it did. -/
def wordsPairUptoRow : OpenClaim := { program := "ytiokngcpbakaaaa", sum := "fac29e46537af4e85b46ed75e9649a78712b0adeb4188be2319f2beb76aa8fba", func := "dustman/dustmanlaw01.WordsPair", spec := "wordsPair", unfollowed := true, recurses := true, apart := false, narrowed := true }
def WordsPairUptoSaid : Prop := wordsPairUptoRow.holds Try.pinned (OpenSpec.upto wordsPairSpec)

/-- 'dustmanlaw01.WordsAhead', WHERE WHAT IT READS IS OF BULK AT MOST 1048576: true; the input reads as it did. -/
def wordsAheadUptoRow : OpenClaim := { program := "ytiokngcpbakaaaa", sum := "fac29e46537af4e85b46ed75e9649a78712b0adeb4188be2319f2beb76aa8fba", func := "dustman/dustmanlaw01.WordsAhead", spec := "wordsAhead", unfollowed := true, recurses := true, apart := false, narrowed := true }
def WordsAheadUptoSaid : Prop := wordsAheadUptoRow.holds Try.pinned (OpenSpec.upto wordsAheadSpec)

/-- 'dustmanlaw01.WordsBack', WHERE WHAT IT READS IS OF BULK AT MOST 1048576: true; the input reads as it did. -/
def wordsBackUptoRow : OpenClaim := { program := "ytiokngcpbakaaaa", sum := "fac29e46537af4e85b46ed75e9649a78712b0adeb4188be2319f2beb76aa8fba", func := "dustman/dustmanlaw01.WordsBack", spec := "wordsBack", unfollowed := true, recurses := true, apart := false, narrowed := true }
def WordsBackUptoSaid : Prop := wordsBackUptoRow.holds Try.pinned (OpenSpec.upto wordsBackSpec)

/-- 'dustmanlaw01.WordsTurn', WHERE WHAT IT READS IS OF BULK AT MOST 1048576: true; the input reads as it did. -/
def wordsTurnUptoRow : OpenClaim := { program := "ytiokngcpbakaaaa", sum := "fac29e46537af4e85b46ed75e9649a78712b0adeb4188be2319f2beb76aa8fba", func := "dustman/dustmanlaw01.WordsTurn", spec := "wordsTurn", unfollowed := true, recurses := true, apart := false, narrowed := true }
def WordsTurnUptoSaid : Prop := wordsTurnUptoRow.holds Try.pinned (OpenSpec.upto wordsTurnSpec)

/-- 'dustmanlaw01.WordsOrder', WHERE WHAT IT READS IS OF BULK AT MOST 1048576: true; the input reads as it did. -/
def wordsOrderUptoRow : OpenClaim := { program := "ytiokngcpbakaaaa", sum := "fac29e46537af4e85b46ed75e9649a78712b0adeb4188be2319f2beb76aa8fba", func := "dustman/dustmanlaw01.WordsOrder", spec := "wordsOrder", unfollowed := true, recurses := true, apart := false, narrowed := true }
def WordsOrderUptoSaid : Prop := wordsOrderUptoRow.holds Try.pinned (OpenSpec.upto wordsOrderSpec)

/-- 'dustmanlaw02.SizesOf', WHERE WHAT IT READS IS OF BULK AT MOST 1048576: true; the input reads as it did. -/
def sizesOfUptoRow : OpenClaim := { program := "ytiokngcpbakaaaa", sum := "fac29e46537af4e85b46ed75e9649a78712b0adeb4188be2319f2beb76aa8fba", func := "dustman/dustmanlaw02.SizesOf", spec := "sizesOf", apart := false, narrowed := true }
def SizesOfUptoSaid : Prop := sizesOfUptoRow.holds Try.pinned (OpenSpec.upto sizesOfSpec)

/-- 'dustmanlaw02.SizesCells', WHERE WHAT IT READS IS OF BULK AT MOST 1048576: true; the input reads as it did. -/
def sizesCellsUptoRow : OpenClaim := { program := "ytiokngcpbakaaaa", sum := "fac29e46537af4e85b46ed75e9649a78712b0adeb4188be2319f2beb76aa8fba", func := "dustman/dustmanlaw02.SizesCells", spec := "sizesCells", apart := false, narrowed := true }
def SizesCellsUptoSaid : Prop := sizesCellsUptoRow.holds Try.pinned (OpenSpec.upto sizesCellsSpec)

/-- 'dustmanlaw02.SizesLeast', WHERE WHAT IT READS IS OF BULK AT MOST 1048576: true; the input reads as it did. -/
def sizesLeastUptoRow : OpenClaim := { program := "ytiokngcpbakaaaa", sum := "fac29e46537af4e85b46ed75e9649a78712b0adeb4188be2319f2beb76aa8fba", func := "dustman/dustmanlaw02.SizesLeast", spec := "sizesLeast", apart := false, narrowed := true }
def SizesLeastUptoSaid : Prop := sizesLeastUptoRow.holds Try.pinned (OpenSpec.upto sizesLeastSpec)

/-- 'dustmanlaw02.SizesOrder', WHERE WHAT IT READS IS OF BULK AT MOST 1048576: true; the input reads as it did. -/
def sizesOrderUptoRow : OpenClaim := { program := "ytiokngcpbakaaaa", sum := "fac29e46537af4e85b46ed75e9649a78712b0adeb4188be2319f2beb76aa8fba", func := "dustman/dustmanlaw02.SizesOrder", spec := "sizesOrder", apart := false, narrowed := true }
def SizesOrderUptoSaid : Prop := sizesOrderUptoRow.holds Try.pinned (OpenSpec.upto sizesOrderSpec)

/-- 'dustmanlaw02.SizesFit', WHERE WHAT IT READS IS OF BULK AT MOST 1048576: true; the input reads as it did. -/
def sizesFitUptoRow : OpenClaim := { program := "ytiokngcpbakaaaa", sum := "fac29e46537af4e85b46ed75e9649a78712b0adeb4188be2319f2beb76aa8fba", func := "dustman/dustmanlaw02.SizesFit", spec := "sizesFit", apart := false, narrowed := true }
def SizesFitUptoSaid : Prop := sizesFitUptoRow.holds Try.pinned (OpenSpec.upto sizesFitSpec)

end Rows
end Go.Proofs.Ytiokngcpbakaaaa
