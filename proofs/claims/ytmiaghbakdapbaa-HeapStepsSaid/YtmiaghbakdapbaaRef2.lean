/- The functions of dustmanref02 compute the same numbers as those of package sizes. No condition but that the numbers are of their kinds. -/
import Derived.Test.YtmiaghbakdapbaaSizes
import Derived.Test.YtmiaghbakdapbaaSlices
set_option linter.unusedVariables false
namespace Go.Proofs.Ytmiaghbakdapbaa
open Go.ChangeShapes Go.WideShapes Go.ChangeAt Go.RowKit

theorem RSlots_c (k : Int) (w : World) : Calls Try.prog 15 #[.int .i64 k] w fun e w' => e = .returned (.int .i64 (sSlots k)) ∧ ∃ n, w' = w.drewN n := by
  rcases five_ways k with h | rfl | rfl | rfl | rfl | rfl
  · have hs := Lib.hid (sSlots_no k h)
    rcases h with h | h
    · go_enter Try.func15, Try.ntmps15
      go_wp2
      go_ret
      exact ⟨ret_int hs.out.symm, 0, rfl⟩
    · have h0 : decide (k < 0) = false := by simp; omega
      have h1 : 4 < k := by omega
      go_enter Try.func15, Try.ntmps15
      go_wp2
      go_ret
      exact ⟨ret_int hs.out.symm, 0, rfl⟩
  all_goals
    go_enter Try.func15, Try.ntmps15
    go_wp2
    refine wp_loop_rounds 6 ?_
    repeat (rw [rounds_succ]; go_wp2)
    go_ret
    exact ⟨rfl, 0, rfl⟩

theorem ROf_no (n : Int) (h : n < 0 ∨ 16 < n) (w : World) : Calls Try.prog 14 #[.int .i64 n] w fun e w' => e = .returned (.int .i64 (sOf n)) ∧ ∃ m, w' = w.drewN m := by
  have hs := Lib.hid (sOf_m1 n h)
  rcases h with h | h
  · go_enter Try.func14, Try.ntmps14
    go_wp2
    go_ret
    exact ⟨ret_int hs.out.symm, 0, rfl⟩
  · have h0 : decide (n < 0) = false := by simp; omega
    go_enter Try.func14, Try.ntmps14
    go_wp2
    go_ret
    exact ⟨ret_int hs.out.symm, 0, rfl⟩

theorem ROf_yes (n : Int) (h0 : 0 ≤ n) (h1 : n ≤ 16) (w : World) : Calls Try.prog 14 #[.int .i64 n] w fun e w' => e = .returned (.int .i64 (sOf n)) ∧ ∃ m, w' = w.drewN m := by
  have e0 := sSlots_0
  have e1 := sSlots_1
  have e2 := sSlots_2
  have e3 := sSlots_3
  have e4 := sSlots_4
  have g0 : decide (n < 0) = false := by simp; omega
  have g1 : decide (16 < n) = false := by simp; omega
  go_enter Try.func14, Try.ntmps14
  go_wp2
  refine wp_loop_rounds 6 ?_
  rw [rounds_succ]
  by_cases k0 : n ≤ 1
  · have k0' : decide (1 < n) = false := by simp; omega
    go_wp2_with (go_at_call 15; refine (RSlots_c _ _).mono ?_ ; rintro e w' ⟨rfl, dn, rfl⟩)
    go_ret
    exact ⟨ret_int (by unfold sOf; rw [if_neg (by omega)]; rw [if_pos (by omega)]), _, rfl⟩
  have k0' : 1 < n := by omega
  clear k0
  go_wp2_with (go_at_call 15; refine (RSlots_c _ _).mono ?_ ; rintro e w' ⟨rfl, dn, rfl⟩)
  rw [rounds_succ]
  by_cases k1 : n ≤ 2
  · have k1' : decide (2 < n) = false := by simp; omega
    go_wp2_with (go_at_call 15; refine (RSlots_c _ _).mono ?_ ; rintro e w' ⟨rfl, dn, rfl⟩)
    go_ret
    exact ⟨ret_int (by unfold sOf; rw [if_neg (by omega)]; rw [if_neg (by omega)]; rw [if_pos (by omega)]), _, rfl⟩
  have k1' : 2 < n := by omega
  clear k1
  go_wp2_with (go_at_call 15; refine (RSlots_c _ _).mono ?_ ; rintro e w' ⟨rfl, dn, rfl⟩)
  rw [rounds_succ]
  by_cases k2 : n ≤ 4
  · have k2' : decide (4 < n) = false := by simp; omega
    go_wp2_with (go_at_call 15; refine (RSlots_c _ _).mono ?_ ; rintro e w' ⟨rfl, dn, rfl⟩)
    go_ret
    exact ⟨ret_int (by unfold sOf; rw [if_neg (by omega)]; rw [if_neg (by omega)]; rw [if_neg (by omega)]; rw [if_pos (by omega)]), _, rfl⟩
  have k2' : 4 < n := by omega
  clear k2
  go_wp2_with (go_at_call 15; refine (RSlots_c _ _).mono ?_ ; rintro e w' ⟨rfl, dn, rfl⟩)
  rw [rounds_succ]
  by_cases k3 : n ≤ 8
  · have k3' : decide (8 < n) = false := by simp; omega
    go_wp2_with (go_at_call 15; refine (RSlots_c _ _).mono ?_ ; rintro e w' ⟨rfl, dn, rfl⟩)
    go_ret
    exact ⟨ret_int (by unfold sOf; rw [if_neg (by omega)]; rw [if_neg (by omega)]; rw [if_neg (by omega)]; rw [if_neg (by omega)]; rw [if_pos (by omega)]), _, rfl⟩
  have k3' : 8 < n := by omega
  clear k3
  go_wp2_with (go_at_call 15; refine (RSlots_c _ _).mono ?_ ; rintro e w' ⟨rfl, dn, rfl⟩)
  rw [rounds_succ]
  by_cases k4 : n ≤ 16
  · have k4' : decide (16 < n) = false := by simp; omega
    go_wp2_with (go_at_call 15; refine (RSlots_c _ _).mono ?_ ; rintro e w' ⟨rfl, dn, rfl⟩)
    go_ret
    exact ⟨ret_int (by unfold sOf; rw [if_neg (by omega)]; rw [if_neg (by omega)]; rw [if_neg (by omega)]; rw [if_neg (by omega)]; rw [if_neg (by omega)]; rw [if_pos (by omega)]), _, rfl⟩
  have k4' : 16 < n := by omega
  clear k4
  omega

theorem ROf_c (n : Int) (w : World) : Calls Try.prog 14 #[.int .i64 n] w fun e w' => e = .returned (.int .i64 (sOf n)) ∧ ∃ m, w' = w.drewN m := by
  by_cases h : n < 0 ∨ 16 < n
  · exact ROf_no n h w
  · exact ROf_yes n (by omega) (by omega) w

end Go.Proofs.Ytmiaghbakdapbaa
