/- words.Ahead, and the functions of dustmanref01, compute the numbers that the chapter tells. No condition but that the numbers are of their kinds. -/
import Derived.Test.YtmiaghbakdapbaaWords
import Derived.Test.YtmiaghbakdapbaaBase2
set_option linter.unusedVariables false
namespace Go.Proofs.Ytmiaghbakdapbaa
open Go.ChangeShapes Go.WideShapes Go.ChangeAt Go.RowKit

def wAhead (a b : Int) : Int := wrap64 (a - b)

theorem wAhead_self (a : Int) : wAhead a a = 0 := by unfold wAhead wrap64; omega
theorem wAhead_u64 (a b : Int) : wrap64 (IntKind.u64.wrap (a - b)) = wAhead a b := by rw [IntKind.wrap_u64]; unfold wAhead wrap64; omega

theorem tmod_nonneg (a b : Int) (h : 0 ≤ a) (hb : 0 ≤ b) : a.tmod b = a % b := by
  rw [Int.tmod_eq_emod]; simp [h]

theorem rphase_num (c p : Int) (h0 : 0 ≤ c) : IntKind.u64.wrap (c % 2305843009213693952 * 8 + (IntKind.u64.wrap p).tmod 8) = wPhase c p := by
  rw [tmod_nonneg _ _ (wrap_u64_lo _) (by omega), IntKind.wrap_u64, IntKind.wrap_u64]
  unfold wPhase
  omega

theorem RPair_c (h l : Int) (h0 : 0 ≤ h) (h1 : h < 4294967296) (l0 : 0 ≤ l) (l1 : l < 4294967296) (w : World) :
    Calls Try.prog 82 #[.int .u32 h, .int .u32 l] w fun e w' => e = .returned (.int .u64 (h * 4294967296 + l)) ∧ ∃ n, w' = w.drewN n := by
  go_enter Try.func82, Try.ntmps82
  go_wp2
  go_ret
  exact ⟨rfl, 0, rfl⟩

theorem RHigh_c (x : Int) (h0 : 0 ≤ x) (h1 : x < 18446744073709551616) (w : World) :
    Calls Try.prog 83 #[.int .u64 x] w fun e w' => e = .returned (.int .u32 (x / 4294967296)) ∧ ∃ n, w' = w.drewN n := by
  have e3 : IntKind.u32.wrap (x / 4294967296) = x / 4294967296 := by simp [IntKind.wrap, IntKind.bits, IntKind.signed]; omega
  go_enter Try.func83, Try.ntmps83
  go_wp2
  go_ret
  exact ⟨rfl, 0, rfl⟩

theorem RLow_c (x : Int) (h0 : 0 ≤ x) (h1 : x < 18446744073709551616) (w : World) :
    Calls Try.prog 80 #[.int .u64 x] w fun e w' => e = .returned (.int .u32 (x % 4294967296)) ∧ ∃ n, w' = w.drewN n := by
  have e4 : IntKind.u32.wrap (x % 4294967296) = x % 4294967296 := by simp [IntKind.wrap, IntKind.bits, IntKind.signed]
  go_enter Try.func80, Try.ntmps80
  go_wp2
  go_ret
  exact ⟨rfl, 0, rfl⟩

theorem rahead_num (a b : Int) (_a0 : 0 ≤ a) (_a1 : a < 18446744073709551616) (_b0 : 0 ≤ b) (_b1 : b < 18446744073709551616) (h : 9223372036854775808 ≤ IntKind.u64.wrap (a - b)) :
    wrap64 (wrap64 (-wrap64 (IntKind.u64.wrap (18446744073709551615 - IntKind.u64.wrap (a - b)))) - 1) = wAhead a b := by
  simp only [IntKind.wrap_u64] at *
  unfold wAhead wrap64
  omega

end Go.Proofs.Ytmiaghbakdapbaa
