/- words.Ahead, and the functions of dustmanref01, compute the numbers that the chapter tells. No condition but that the numbers are of their kinds. -/
import Derived.Test.YtlmmaijbppdckaaWords
import Derived.Test.YtlmmaijbppdckaaBase2
set_option linter.unusedVariables false
namespace Go.Proofs.Ytlmmaijbppdckaa
open Go.ChangeShapes Go.WideShapes Go.ChangeAt Go.RowKit

theorem arr2_eq (a b : Int) (w : World) : (Op.equalIn 10000 71 (.agg #[.int .u64 a, .int .u64 0]) (.agg #[.int .u64 b, .int .u64 0])).run Try.prog w = .ok (a == b) w := by
  have h := run_eq_ints (d := 9998) (k := .u64) Try.underlying71 (by kernel_rfl) (by kernel_rfl) Try.underlying29 [a, 0] [b, 0] rfl rfl w
  simpa [ivals] using h

def wAhead (a b : Int) : Int := wrap64 (a - b)

theorem wAhead_self (a : Int) : wAhead a a = 0 := by unfold wAhead wrap64; omega
theorem wAhead_u64 (a b : Int) : wrap64 (IntKind.u64.wrap (a - b)) = wAhead a b := by rw [IntKind.wrap_u64]; unfold wAhead wrap64; omega

theorem Ahead_c (a b : Int) (w : World) :
    Calls Try.prog 35 #[.int .u64 a, .int .u64 b] w fun e w' => e = .returned (.int .i64 (wAhead a b)) ∧ ∃ n, w' = w.drewN n := by
  by_cases h : a = b
  · subst h
    have h1 := arr2_eq a a
    simp only [beq_self_eq_true] at h1
    go_enter Try.func35, Try.ntmps35
    go_wp2
    go_ret
    exact ⟨ret_int (wAhead_self a).symm, 0, rfl⟩
  · have h2 : (a == b) = false := by simpa using h
    have h1 := arr2_eq a b
    simp only [h2] at h1
    go_enter Try.func35, Try.ntmps35
    go_wp2
    go_ret
    exact ⟨ret_int (wAhead_u64 a b), 0, rfl⟩

theorem tmod_nonneg (a b : Int) (h : 0 ≤ a) (hb : 0 ≤ b) : a.tmod b = a % b := by
  rw [Int.tmod_eq_emod]; simp [h]

theorem rphase_num (c p : Int) (h0 : 0 ≤ c) : IntKind.u64.wrap (c % 2305843009213693952 * 8 + (IntKind.u64.wrap p).tmod 8) = wPhase c p := by
  rw [tmod_nonneg _ _ (wrap_u64_lo _) (by omega), IntKind.wrap_u64, IntKind.wrap_u64]
  unfold wPhase
  omega

theorem rahead_num (a b : Int) (_a0 : 0 ≤ a) (_a1 : a < 18446744073709551616) (_b0 : 0 ≤ b) (_b1 : b < 18446744073709551616) (h : 9223372036854775808 ≤ IntKind.u64.wrap (a - b)) :
    wrap64 (wrap64 (-wrap64 (IntKind.u64.wrap (18446744073709551615 - IntKind.u64.wrap (a - b)))) - 1) = wAhead a b := by
  simp only [IntKind.wrap_u64] at *
  unfold wAhead wrap64
  omega

end Go.Proofs.Ytlmmaijbppdckaa
