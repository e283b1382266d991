/- The functions of package words and of dustmanref01 compute the numbers that the chapter tells. No condition but that the numbers are of their kinds. -/
import Derived.Test.YtmiaghbakdapbaaBase
set_option linter.unusedVariables false
namespace Go.Proofs.Ytmiaghbakdapbaa
open Go.ChangeShapes Go.WideShapes Go.ChangeAt Go.RowKit

theorem part3 (x : Int) (h0 : 0 ≤ x) (h1 : x < 18446744073709551616) (w : World) :
    Calls Try.prog 91 #[.int .u64 x, .int .i64 3] w fun e w' => e = .returned (.tuple #[.int .u64 (x/8), .int .u64 (bits .and .u64 x 7)]) ∧ ∃ n, w' = w.drewN n := by
  go_enter Try.func91, Try.ntmps91
  go_wp2
  go_quiet (fail)
  go_wp2
  go_ret2
  exact ⟨rfl, nq, rfl⟩

theorem part32 (x : Int) (h0 : 0 ≤ x) (h1 : x < 18446744073709551616) (w : World) :
    Calls Try.prog 91 #[.int .u64 x, .int .i64 32] w fun e w' => e = .returned (.tuple #[.int .u64 (x/4294967296), .int .u64 (bits .and .u64 x 4294967295)]) ∧ ∃ n, w' = w.drewN n := by
  go_enter Try.func91, Try.ntmps91
  go_wp2
  go_quiet (fail)
  go_wp2
  go_ret2
  exact ⟨rfl, nq, rfl⟩

def wPhase (c p : Int) : Int := c % 2305843009213693952 * 8 + p % 8

theorem phase_bits (c p : Int) (h0 : 0 ≤ c) : bits .or .u64 (IntKind.u64.wrap (c * 8)) (bits .and .u64 (IntKind.u64.wrap p) 7) = wPhase c p := by
  rw [and7 _ (wrap_u64_lo _) (wrap_u64_hi _), IntKind.wrap_u64, IntKind.wrap_u64]
  have e : c * 8 % 18446744073709551616 = (c % 2305843009213693952) * 8 := by omega
  have e2 : p % 18446744073709551616 % 8 = p % 8 := by omega
  rw [e, e2, or8 _ _ (by omega) (by omega) (by omega) (by omega)]
  rfl

theorem Split_c (x : Int) (h0 : 0 ≤ x) (h1 : x < 18446744073709551616) (w : World) :
    Calls Try.prog 75 #[.int .u64 x] w fun e w' => e = .returned (.tuple #[.int .u32 (x / 4294967296), .int .u32 (x % 4294967296)]) ∧ ∃ n, w' = w.drewN n := by
  have e : bits .and .u64 x 4294967295 = x % 4294967296 := and32 x h0 h1
  have e3 : IntKind.u32.wrap (x / 4294967296) = x / 4294967296 := by simp [IntKind.wrap, IntKind.bits, IntKind.signed]; omega
  have e4 : IntKind.u32.wrap (x % 4294967296) = x % 4294967296 := by simp [IntKind.wrap, IntKind.bits, IntKind.signed]
  go_enter Try.func75, Try.ntmps75
  go_wp2_with (go_at_call 91; refine (part32 _ h0 h1 _).mono ?_ ; rintro e w' ⟨rfl, n, rfl⟩)
  go_ret2
  exact ⟨rfl, n, rfl⟩

theorem Pair_c (h l : Int) (h0 : 0 ≤ h) (h1 : h < 4294967296) (l0 : 0 ≤ l) (l1 : l < 4294967296) (w : World) :
    Calls Try.prog 56 #[.int .u32 h, .int .u32 l] w fun e w' => e = .returned (.int .u64 (h * 4294967296 + l)) ∧ ∃ n, w' = w.drewN n := by
  have e : bits .or .u64 (h * 4294967296) l = h * 4294967296 + l := or32 h l h0 h1 l0 l1
  go_enter Try.func56, Try.ntmps56
  go_wp2
  go_ret
  exact ⟨rfl, 0, rfl⟩

def wTurn (x l : Int) : Int := (x / 4294967296 + 1) % 4294967296 * 4294967296 + l

theorem Turn_c (x l : Int) (h0 : 0 ≤ x) (h1 : x < 18446744073709551616) (l0 : 0 ≤ l) (l1 : l < 4294967296) (w : World) :
    Calls Try.prog 98 #[.int .u64 x, .int .u32 l] w fun e w' => e = .returned (.int .u64 (wTurn x l)) ∧ ∃ n, w' = w.drewN n := by
  have e : ∀ a : Int, IntKind.u32.wrap a = a % 4294967296 := fun a => by simp [IntKind.wrap, IntKind.bits, IntKind.signed]
  go_enter Try.func98, Try.ntmps98
  go_wp2_with (first | (go_at_call 75; refine (Split_c _ h0 h1 _).mono ?_ ; rintro e w' ⟨rfl, n, rfl⟩) | (go_at_call 56; refine (Pair_c _ _ (by omega) (by omega) l0 l1 _).mono ?_ ; rintro e w' ⟨rfl, m, rfl⟩))
  go_ret
  exact ⟨rfl, _, rfl⟩

end Go.Proofs.Ytmiaghbakdapbaa
