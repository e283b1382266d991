/- The functions of dustmanref06, over memory as parts. Condition: the list is one of the parts. -/
import Derived.Test.YtlmmaijbppdckaaRef6
import Derived.Test.YtlmmaijbppdckaaHas
set_option linter.unusedVariables false
namespace Go.Proofs.Ytlmmaijbppdckaa
open Go.ChangeShapes Go.WideShapes Go.ChangeAt Go.RowKit

section
variable {w0 w : World} {cs : List (Chunk w0.heap.size)} (H : Has w0 w cs) (i : Nat) {v : Value} {l : List Int} (hi : cs[i]? = some (slC _ .u64 v l))
include H hi

theorem RSame_h (j : Nat) {v' : Value} {l' : List Int} (hj : cs[j]? = some (slC _ .u64 v' l')) (hl : l.length < 1000000000000) : Calls Try.prog 20 #[v, v'] w fun e w' => e = .returned (.bool (l == l')) ∧ ∃ n, w' = w.drewN n := RSame_c v v' l l' w (H.sl i hi) (H.sl j hj) hl
end

end Go.Proofs.Ytlmmaijbppdckaa
