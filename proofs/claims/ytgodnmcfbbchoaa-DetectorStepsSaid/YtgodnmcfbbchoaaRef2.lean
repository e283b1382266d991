/- The functions of dustmanref02 compute the same numbers as those of package sizes. No condition but that the numbers are of their kinds. -/
import Derived.Test.YtgodnmcfbbchoaaSizes
import Derived.Test.YtgodnmcfbbchoaaSlices
set_option linter.unusedVariables false
namespace Go.Proofs.Ytgodnmcfbbchoaa
open Go.ChangeShapes Go.WideShapes Go.ChangeAt Go.RowKit

theorem RSlots_c (k : Int) (w : World) : Calls Try.prog 83 #[.int .i64 k] w fun e w' => e = .returned (.int .i64 (sSlots k)) ∧ ∃ n, w' = w.drewN n := by
  rcases five_ways k with h | rfl | rfl | rfl | rfl | rfl
  · have hs := Lib.hid (sSlots_no k h)
    rcases h with h | h
    · go_enter Try.func83, Try.ntmps83
      go_wp2
      go_ret
      exact ⟨ret_int hs.out.symm, 0, rfl⟩
    · have h0 : decide (k < 0) = false := by simp; omega
      have h1 : 4 < k := by omega
      go_enter Try.func83, Try.ntmps83
      go_wp2
      go_ret
      exact ⟨ret_int hs.out.symm, 0, rfl⟩
  all_goals
    go_enter Try.func83, Try.ntmps83
    go_wp2
    refine wp_loop_rounds 6 ?_
    repeat (rw [rounds_succ]; go_wp2)
    go_ret
    exact ⟨rfl, 0, rfl⟩

end Go.Proofs.Ytgodnmcfbbchoaa
