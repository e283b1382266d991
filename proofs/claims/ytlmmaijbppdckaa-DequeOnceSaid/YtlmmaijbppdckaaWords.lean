/- The functions of package words and of dustmanref01 compute the numbers that the chapter tells. No condition but that the numbers are of their kinds. -/
import Derived.Test.YtlmmaijbppdckaaBase
set_option linter.unusedVariables false
namespace Go.Proofs.Ytlmmaijbppdckaa
open Go.ChangeShapes Go.WideShapes Go.ChangeAt Go.RowKit

def wPhase (c p : Int) : Int := c % 2305843009213693952 * 8 + p % 8

theorem phase_bits (c p : Int) (h0 : 0 ≤ c) : bits .or .u64 (IntKind.u64.wrap (c * 8)) (bits .and .u64 (IntKind.u64.wrap p) 7) = wPhase c p := by
  rw [and7 _ (wrap_u64_lo _) (wrap_u64_hi _), IntKind.wrap_u64, IntKind.wrap_u64]
  have e : c * 8 % 18446744073709551616 = (c % 2305843009213693952) * 8 := by omega
  have e2 : p % 18446744073709551616 % 8 = p % 8 := by omega
  rw [e, e2, or8 _ _ (by omega) (by omega) (by omega) (by omega)]
  rfl

def wTurn (x l : Int) : Int := (x / 4294967296 + 1) % 4294967296 * 4294967296 + l

end Go.Proofs.Ytlmmaijbppdckaa
