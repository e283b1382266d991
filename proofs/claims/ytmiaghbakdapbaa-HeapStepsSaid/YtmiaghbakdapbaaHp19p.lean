/- A node that is made (package heap), in plain Lean: one step of a machine. No condition. -/
import Derived.Test.YtmiaghbakdapbaaWords2
import Derived.Test.YtmiaghbakdapbaaCells
import Derived.Test.YtmiaghbakdapbaaMeth5
import Derived.Test.YtmiaghbakdapbaaSizes
set_option linter.unusedVariables false
set_option linter.unusedSimpArgs false
namespace Go.Proofs.Ytmiaghbakdapbaa
open Go.ChangeShapes Go.WideShapes Go.ChangeAt Go.RowKit

/-- A machine: what it knows, what its last step did (ek, ea, eb), and its next step (0: finished). -/
structure Hp where
  slots : Int
  cls : Int
  mark : Int
  h : Int
  link : Int
  v : Int
  took : Bool
  tries : Int
  i : Int
  node : Int
  e : Int
  ek : Int
  ea : Int
  eb : Int
  pc : Nat

def hpRest (c : Cfg) (v i : Int) : Nat := bif decide (i < c.roomAt v) then 5 else 6
def hpPc (b : Bool) (x y : Nat) : Nat := bif b then x else y
def hpE (b : Bool) (x y : Int) : Int := bif b then x else y

/-- What a machine's step comes to. -/
def hpStep (c : Cfg) (l : List Int) : Hp → List Int × Hp
  | ⟨s, k, mk, h, lk, v, tk, tr, i, nd, e, _, _, _, 0⟩ => (l, ⟨s, k, mk, h, lk, v, tk, tr, i, nd, e, 0, 0, 0, 0⟩)
  | ⟨s, k, mk, h, lk, v, tk, tr, i, nd, e, _, _, _, 1⟩ => (l, ⟨s, k, mk, mld l (c.headAt k), lk, mld l (c.headAt k) % 4294967296, tk, wrap64 (tr + 1), i, nd, hpE (mld l (c.headAt k) % 4294967296 == 0) 22 e, 0, 0, 0, hpPc (mld l (c.headAt k) % 4294967296 == 0) 0 2⟩)
  | ⟨s, k, mk, h, lk, v, tk, tr, i, nd, e, _, _, _, 2⟩ => (l, ⟨s, k, mk, h, mld l (c.nodeAt v 3) % 4294967296, v, tk, tr, i, nd, e, 0, 0, 0, 3⟩)
  | ⟨s, k, mk, h, lk, v, tk, tr, i, nd, e, _, _, _, 3⟩ => (mswap l (c.headAt k) h (wTurn h lk), ⟨s, k, mk, h, lk, v, mswapped l (c.headAt k) h, tr, i, nd, hpE (mswapped l (c.headAt k) h) e (hpE (tr == 4) 23 e), 0, 0, 0, hpPc (mswapped l (c.headAt k) h) 4 (hpPc (tr == 4) 0 1)⟩)
  | ⟨s, k, mk, h, lk, v, tk, tr, i, nd, e, _, _, _, 4⟩ => (mput l (c.nodeAt v 0) (IntKind.u64.wrap s), ⟨s, k, mk, h, lk, v, tk, tr, i, nd, e, 0, 0, 0, hpRest c v i⟩)
  | ⟨s, k, mk, h, lk, v, tk, tr, i, nd, e, _, _, _, 5⟩ => (mput l (c.slotAt v i) 0, ⟨s, k, mk, h, lk, v, tk, tr, wrap64 (i + 1), nd, e, 0, 0, 0, hpRest c v (wrap64 (i + 1))⟩)
  | ⟨s, k, mk, h, lk, v, tk, tr, i, nd, e, _, _, _, 6⟩ => (mput l (c.nodeAt v 2) mk, ⟨s, k, mk, h, lk, v, tk, tr, i, nd, e, 0, 0, 0, 7⟩)
  | ⟨s, k, mk, h, lk, v, tk, tr, i, nd, e, _, _, _, _⟩ => (mput l (c.nodeAt v 1) 1, ⟨s, k, mk, h, lk, v, false, tr, i, v, e, 8, v, s, 0⟩)
def hpCount (m : Hp) (n : Int) : Int := bif m.pc == 0 then n else wrap64 (n + 1)
/-- The cell that it has taken. -/
def hpCell (m : Hp) : Int := bif m.took then m.v else 0
/-- A machine at its begin. -/
def hpNew (slots mark : Int) : Hp := ⟨slots, sOf slots, mark, 0, 0, 0, false, 0, 0, 0, hpE (decide (0 ≤ sOf slots)) 0 21, 0, 0, 0, hpPc (decide (0 ≤ sOf slots)) 1 0⟩

end Go.Proofs.Ytmiaghbakdapbaa
