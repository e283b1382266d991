/- The functions of dustmanref06, over memory as parts. Condition: the list is one of the parts. -/
import Derived.Test.YtmiaghbakdapbaaRef6
import Derived.Test.YtmiaghbakdapbaaHas
set_option linter.unusedVariables false
namespace Go.Proofs.Ytmiaghbakdapbaa
open Go.ChangeShapes Go.WideShapes Go.ChangeAt Go.RowKit

section
variable {w0 w : World} {cs : List (Chunk w0.heap.size)} (H : Has w0 w cs) (i : Nat) {v : Value} {l : List Int} (hi : cs[i]? = some (slC _ .u64 v l))
include H hi

theorem RLoad_h (at_ : Int) : Calls Try.prog 79 #[v, .int .i64 at_] w fun e w' => e = .returned (.int .u64 (mld l at_)) ∧ w' = w := RLoad_c v l at_ w (H.sl i hi)

theorem RPut_h (at_ x : Int) (hl : l.length < 1000000000000) : Calls Try.prog 27 #[v, .int .i64 at_, .int .u64 x] w fun e w' => ∃ v', e = .returned v' ∧ Has w0 w' (cs.set i (slC _ .u64 v' (mput l at_ x))) :=
  (RPut_c v l at_ x w H.owned_lt (H.sl i hi) hl).mono fun _ _ ⟨v', he, hs, b⟩ => ⟨v', he, H.setSl i hi b hs⟩

theorem RSwap_h (at_ old x : Int) (hl : l.length < 1000000000000) : Calls Try.prog 81 #[v, .int .i64 at_, .int .u64 old, .int .u64 x] w fun e w' => ∃ v', e = .returned (.tuple #[v', .bool (mswapped l at_ old)]) ∧ Has w0 w' (cs.set i (slC _ .u64 v' (mswap l at_ old x))) :=
  (RSwap_c v l at_ old x w H.owned_lt (H.sl i hi) hl).mono fun _ _ ⟨v', he, hs, b⟩ => ⟨v', he, H.setSl i hi b hs⟩

theorem RSame_h (j : Nat) {v' : Value} {l' : List Int} (hj : cs[j]? = some (slC _ .u64 v' l')) (hl : l.length < 1000000000000) : Calls Try.prog 33 #[v, v'] w fun e w' => e = .returned (.bool (l == l')) ∧ ∃ n, w' = w.drewN n := RSame_c v v' l l' w (H.sl i hi) (H.sl j hj) hl
end

end Go.Proofs.Ytmiaghbakdapbaa
