/- The functions of package sizes compute the numbers that the chapter tells. No condition but that the numbers are of their kinds. -/
import Derived.Test.YtmiaghbakdapbaaBase2
import Derived.LoopN
set_option linter.unusedVariables false
namespace Go.Proofs.Ytmiaghbakdapbaa
open Go.ChangeShapes Go.WideShapes Go.ChangeAt Go.RowKit

def sSlots (k : Int) : Int := if k = 0 then 1 else if k = 1 then 2 else if k = 2 then 4 else if k = 3 then 8 else if k = 4 then 16 else 0
def sWords (k : Int) : Int := if k = 0 then 2 else if k = 1 then 3 else if k = 2 then 5 else if k = 3 then 9 else if k = 4 then 17 else 0
def sOf (n : Int) : Int := if n < 0 then -1 else if n ≤ 1 then 0 else if n ≤ 2 then 1 else if n ≤ 4 then 2 else if n ≤ 8 then 3 else if n ≤ 16 then 4 else -1
def sBound (n : Int) : Int := if n < 0 then 0 else if n < 12 then n else 12

theorem is_no (k : Int) (h : k < 0 ∨ 5 ≤ k) (w : World) : Calls Try.prog 73 #[.int .i64 k] w fun e w' => e = .returned (.bool false) ∧ ∃ n, w' = w.drewN n := by
  rcases h with h | h
  · go_enter Try.func73, Try.ntmps73
    go_wp2
    go_ret
    exact ⟨rfl, 0, rfl⟩
  · have h0 : 0 ≤ k := by omega
    have h1 : decide (k < 5) = false := by simp; omega
    go_enter Try.func73, Try.ntmps73
    go_wp2
    go_ret
    exact ⟨rfl, 0, rfl⟩

theorem is_yes (k : Int) (h0 : 0 ≤ k) (h1 : k < 5) (w : World) : Calls Try.prog 73 #[.int .i64 k] w fun e w' => e = .returned (.bool true) ∧ ∃ n, w' = w.drewN n := by
  go_enter Try.func73, Try.ntmps73
  go_wp2
  go_ret
  exact ⟨rfl, 0, rfl⟩

theorem five_ways (k : Int) : (k < 0 ∨ 5 ≤ k) ∨ k = 0 ∨ k = 1 ∨ k = 2 ∨ k = 3 ∨ k = 4 := by omega
theorem sSlots_no (k : Int) (h : k < 0 ∨ 5 ≤ k) : sSlots k = 0 := by unfold sSlots; repeat rw [if_neg (by omega)]
theorem sWords_no (k : Int) (h : k < 0 ∨ 5 ≤ k) : sWords k = 0 := by unfold sWords; repeat rw [if_neg (by omega)]

theorem Slots_c (k : Int) (w : World) : Calls Try.prog 53 #[.int .i64 k] w fun e w' => e = .returned (.int .i64 (sSlots k)) ∧ ∃ n, w' = w.drewN n := by
  rcases five_ways k with h | rfl | rfl | rfl | rfl | rfl
  · have hs := Lib.hid (sSlots_no k h)
    go_enter Try.func53, Try.ntmps53
    go_wp2_with (go_at_call 73; refine (is_no _ h _).mono ?_ ; rintro e w' ⟨rfl, dn, rfl⟩)
    go_ret
    exact ⟨ret_int hs.out.symm, _, rfl⟩
  all_goals
    go_enter Try.func53, Try.ntmps53
    go_wp2_with (go_at_call 73; refine (is_yes _ (by decide) (by decide) _).mono ?_ ; rintro e w' ⟨rfl, dn, rfl⟩)
    go_ret
    exact ⟨rfl, _, rfl⟩

theorem sBound_lo (n : Int) : 0 ≤ sBound n := by unfold sBound; repeat' split <;> omega
theorem sBound_hi (n : Int) : sBound n ≤ 12 := by unfold sBound; repeat' split <;> omega

theorem sBound_neg (n : Int) (h : n < 0) : sBound n = 0 := by unfold sBound; rw [if_pos h]
theorem sBound_mid (n : Int) (h : 0 ≤ n) (h' : n ≤ 12) : sBound n = n := by unfold sBound; rw [if_neg (by omega)]; split <;> omega
theorem sBound_top (n : Int) (h : 12 < n) : sBound n = 12 := by unfold sBound; rw [if_neg (by omega), if_neg (by omega)]

theorem Bound_c (n : Int) (w : World) : Calls Try.prog 72 #[.int .i64 n] w fun e w' => e = .returned (.int .i64 (sBound n)) ∧ ∃ m, w' = w.drewN m := by
  by_cases h : n < 0
  · go_enter Try.func72, Try.ntmps72
    go_wp2
    go_ret
    exact ⟨ret_int (sBound_neg n h).symm, 0, rfl⟩
  have h' : 0 ≤ n := by omega
  by_cases g : n ≤ 12
  · go_enter Try.func72, Try.ntmps72
    go_wp2
    go_ret
    exact ⟨ret_int (sBound_mid n h' g).symm, 0, rfl⟩
  · have g' : 12 < n := by omega
    go_enter Try.func72, Try.ntmps72
    go_wp2
    go_ret
    exact ⟨ret_int (sBound_top n g').symm, 0, rfl⟩

/-- The five cells of an array, as a value. -/
def arr5 (c0 c1 c2 c3 c4 : Int) : Value := .agg #[.int .i64 c0, .int .i64 c1, .int .i64 c2, .int .i64 c3, .int .i64 c4]
theorem ix0 (c0 c1 c2 c3 c4 : Int) (w : World) : (Instr.index 22 (.agg #[.int .i64 c0, .int .i64 c1, .int .i64 c2, .int .i64 c3, .int .i64 c4]) (.int .i64 0)).run Try.prog w = .ok (.int .i64 c0) w := by kernel_rfl
theorem ix1 (c0 c1 c2 c3 c4 : Int) (w : World) : (Instr.index 22 (.agg #[.int .i64 c0, .int .i64 c1, .int .i64 c2, .int .i64 c3, .int .i64 c4]) (.int .i64 1)).run Try.prog w = .ok (.int .i64 c1) w := by kernel_rfl
theorem ix2 (c0 c1 c2 c3 c4 : Int) (w : World) : (Instr.index 22 (.agg #[.int .i64 c0, .int .i64 c1, .int .i64 c2, .int .i64 c3, .int .i64 c4]) (.int .i64 2)).run Try.prog w = .ok (.int .i64 c2) w := by kernel_rfl
theorem ix3 (c0 c1 c2 c3 c4 : Int) (w : World) : (Instr.index 22 (.agg #[.int .i64 c0, .int .i64 c1, .int .i64 c2, .int .i64 c3, .int .i64 c4]) (.int .i64 3)).run Try.prog w = .ok (.int .i64 c3) w := by kernel_rfl
theorem ix4 (c0 c1 c2 c3 c4 : Int) (w : World) : (Instr.index 22 (.agg #[.int .i64 c0, .int .i64 c1, .int .i64 c2, .int .i64 c3, .int .i64 c4]) (.int .i64 4)).run Try.prog w = .ok (.int .i64 c4) w := by kernel_rfl
attribute [local go_sem] ix0 ix1 ix2 ix3 ix4

def sNodes (c0 c1 c2 c3 c4 : Int) : Int := sBound c0 + sBound c1 + sBound c2 + sBound c3 + sBound c4
def sTotal (c0 c1 c2 c3 c4 : Int) : Int := sBound c0 * 2 + sBound c1 * 3 + sBound c2 * 5 + sBound c3 * 9 + sBound c4 * 17
def sClass (c0 c1 c2 c3 c4 v : Int) : Int :=
  if v < 1 then -1 else if v ≤ sBound c0 then 0 else if v ≤ sBound c0 + sBound c1 then 1 else if v ≤ sBound c0 + sBound c1 + sBound c2 then 2
  else if v ≤ sBound c0 + sBound c1 + sBound c2 + sBound c3 then 3 else if v ≤ sBound c0 + sBound c1 + sBound c2 + sBound c3 + sBound c4 then 4 else -1



set_option maxHeartbeats 400000 in
theorem Nodes_c (c0 c1 c2 c3 c4 : Int) (w : World) : Calls Try.prog 52 #[.agg #[.int .i64 c0, .int .i64 c1, .int .i64 c2, .int .i64 c3, .int .i64 c4]] w fun e w' => e = .returned (.int .i64 (sNodes c0 c1 c2 c3 c4)) ∧ Below w.heap.size w w' := by
  have l0 := sBound_lo c0
  have l1 := sBound_lo c1
  have l2 := sBound_lo c2
  have l3 := sBound_lo c3
  have l4 := sBound_lo c4
  have h0 := sBound_hi c0
  have h1 := sBound_hi c1
  have h2 := sBound_hi c2
  have h3 := sBound_hi c3
  have h4 := sBound_hi c4
  go_enter Try.func52, Try.ntmps52
  go_wp2
  refine wp_loop_rounds 6 ?_
  repeat (rw [rounds_succ]; go_wp2_with (go_at_call 72; refine (Bound_c _ _).mono ?_ ; rintro e w' ⟨rfl, dn, rfl⟩))
  go_ret
  exact ⟨rfl, below_box _ _ _⟩

theorem sWords_0 : sWords 0 = 2 := rfl
theorem sWords_1 : sWords 1 = 3 := rfl
theorem sWords_2 : sWords 2 = 5 := rfl
theorem sWords_3 : sWords 3 = 9 := rfl
theorem sWords_4 : sWords 4 = 17 := rfl

theorem sClass_neg (c0 c1 c2 c3 c4 v : Int) (h : v < 1) : sClass c0 c1 c2 c3 c4 v = -1 := by unfold sClass; rw [if_pos h]

theorem Class_c0 (c0 c1 c2 c3 c4 v : Int) (h : v < 1) (w : World) : Calls Try.prog 54 #[.agg #[.int .i64 c0, .int .i64 c1, .int .i64 c2, .int .i64 c3, .int .i64 c4], .int .i64 v] w fun e w' => e = .returned (.int .i64 (sClass c0 c1 c2 c3 c4 v)) ∧ Below w.heap.size w w' := by
  go_enter Try.func54, Try.ntmps54
  go_wp2
  go_ret
  exact ⟨ret_int (sClass_neg _ _ _ _ _ _ h).symm, below_box _ _ 0⟩

set_option maxHeartbeats 800000 in
theorem Class_c1 (c0 c1 c2 c3 c4 v : Int) (h : 1 ≤ v) (h' : v ≤ 9223372036854775807) (w : World) : Calls Try.prog 54 #[.agg #[.int .i64 c0, .int .i64 c1, .int .i64 c2, .int .i64 c3, .int .i64 c4], .int .i64 v] w fun e w' => e = .returned (.int .i64 (sClass c0 c1 c2 c3 c4 v)) ∧ Below w.heap.size w w' := by
  have l0 := sBound_lo c0
  have l1 := sBound_lo c1
  have l2 := sBound_lo c2
  have l3 := sBound_lo c3
  have l4 := sBound_lo c4
  have h0 := sBound_hi c0
  have h1 := sBound_hi c1
  have h2 := sBound_hi c2
  have h3 := sBound_hi c3
  have h4 := sBound_hi c4
  go_enter Try.func54, Try.ntmps54
  go_wp2
  refine wp_loop_rounds 6 ?_
  rw [rounds_succ]
  by_cases g0 : v ≤ sBound c0
  · go_wp2_with (go_at_call 72; refine (Bound_c _ _).mono ?_ ; rintro e w' ⟨rfl, dn, rfl⟩)
    go_ret
    exact ⟨ret_int (by unfold sClass; rw [if_neg (by omega)]; rw [if_pos (by omega)]), below_box _ _ _⟩
  have g0' : sBound c0 < v := by omega
  clear g0
  go_wp2_with (go_at_call 72; refine (Bound_c _ _).mono ?_ ; rintro e w' ⟨rfl, dn, rfl⟩)
  rw [rounds_succ]
  by_cases g1 : v - sBound c0 ≤ sBound c1
  · go_wp2_with (go_at_call 72; refine (Bound_c _ _).mono ?_ ; rintro e w' ⟨rfl, dn, rfl⟩)
    go_ret
    exact ⟨ret_int (by unfold sClass; rw [if_neg (by omega)]; rw [if_neg (by omega)]; rw [if_pos (by omega)]), below_box _ _ _⟩
  have g1' : sBound c1 < v - sBound c0 := by omega
  clear g1
  go_wp2_with (go_at_call 72; refine (Bound_c _ _).mono ?_ ; rintro e w' ⟨rfl, dn, rfl⟩)
  rw [rounds_succ]
  by_cases g2 : v - sBound c0 - sBound c1 ≤ sBound c2
  · go_wp2_with (go_at_call 72; refine (Bound_c _ _).mono ?_ ; rintro e w' ⟨rfl, dn, rfl⟩)
    go_ret
    exact ⟨ret_int (by unfold sClass; rw [if_neg (by omega)]; rw [if_neg (by omega)]; rw [if_neg (by omega)]; rw [if_pos (by omega)]), below_box _ _ _⟩
  have g2' : sBound c2 < v - sBound c0 - sBound c1 := by omega
  clear g2
  go_wp2_with (go_at_call 72; refine (Bound_c _ _).mono ?_ ; rintro e w' ⟨rfl, dn, rfl⟩)
  rw [rounds_succ]
  by_cases g3 : v - sBound c0 - sBound c1 - sBound c2 ≤ sBound c3
  · go_wp2_with (go_at_call 72; refine (Bound_c _ _).mono ?_ ; rintro e w' ⟨rfl, dn, rfl⟩)
    go_ret
    exact ⟨ret_int (by unfold sClass; rw [if_neg (by omega)]; rw [if_neg (by omega)]; rw [if_neg (by omega)]; rw [if_neg (by omega)]; rw [if_pos (by omega)]), below_box _ _ _⟩
  have g3' : sBound c3 < v - sBound c0 - sBound c1 - sBound c2 := by omega
  clear g3
  go_wp2_with (go_at_call 72; refine (Bound_c _ _).mono ?_ ; rintro e w' ⟨rfl, dn, rfl⟩)
  rw [rounds_succ]
  by_cases g4 : v - sBound c0 - sBound c1 - sBound c2 - sBound c3 ≤ sBound c4
  · go_wp2_with (go_at_call 72; refine (Bound_c _ _).mono ?_ ; rintro e w' ⟨rfl, dn, rfl⟩)
    go_ret
    exact ⟨ret_int (by unfold sClass; rw [if_neg (by omega)]; rw [if_neg (by omega)]; rw [if_neg (by omega)]; rw [if_neg (by omega)]; rw [if_neg (by omega)]; rw [if_pos (by omega)]), below_box _ _ _⟩
  have g4' : sBound c4 < v - sBound c0 - sBound c1 - sBound c2 - sBound c3 := by omega
  clear g4
  go_wp2_with (go_at_call 72; refine (Bound_c _ _).mono ?_ ; rintro e w' ⟨rfl, dn, rfl⟩)
  rw [rounds_succ]
  go_wp2_with (go_at_call 72; refine (Bound_c _ _).mono ?_ ; rintro e w' ⟨rfl, dn, rfl⟩)
  go_ret
  exact ⟨ret_int (by unfold sClass; repeat rw [if_neg (by omega)]), below_box _ _ _⟩

theorem Class_c (c0 c1 c2 c3 c4 v : Int) (h' : v ≤ 9223372036854775807) (w : World) : Calls Try.prog 54 #[.agg #[.int .i64 c0, .int .i64 c1, .int .i64 c2, .int .i64 c3, .int .i64 c4], .int .i64 v] w fun e w' => e = .returned (.int .i64 (sClass c0 c1 c2 c3 c4 v)) ∧ Below w.heap.size w w' := by
  by_cases h : v < 1
  · exact Class_c0 _ _ _ _ _ _ h w
  · exact Class_c1 _ _ _ _ _ _ (by omega) h' w

theorem sOf_m1 (n : Int) (h : n < 0 ∨ 16 < n) : sOf n = -1 := by unfold sOf; repeat' split <;> omega

theorem Of_neg (n : Int) (h : n < 0) (w : World) : Calls Try.prog 34 #[.int .i64 n] w fun e w' => e = .returned (.int .i64 (sOf n)) ∧ ∃ m, w' = w.drewN m := by
  have hs := Lib.hid (sOf_m1 n (by omega))
  have h0 : decide (0 ≤ n) = false := by simp; omega
  go_enter Try.func34, Try.ntmps34
  go_wp2
  refine wp_loop_rounds 6 ?_
  repeat (rw [rounds_succ]; go_wp2)
  go_ret
  exact ⟨ret_int hs.out.symm, 0, rfl⟩

theorem sSlots_0 : sSlots 0 = 1 := rfl
theorem sSlots_1 : sSlots 1 = 2 := rfl
theorem sSlots_2 : sSlots 2 = 4 := rfl
theorem sSlots_3 : sSlots 3 = 8 := rfl
theorem sSlots_4 : sSlots 4 = 16 := rfl

theorem Of_pos (n : Int) (h : 0 ≤ n) (w : World) : Calls Try.prog 34 #[.int .i64 n] w fun e w' => e = .returned (.int .i64 (sOf n)) ∧ ∃ m, w' = w.drewN m := by
  have e0 := sSlots_0
  have e1 := sSlots_1
  have e2 := sSlots_2
  have e3 := sSlots_3
  have e4 := sSlots_4
  go_enter Try.func34, Try.ntmps34
  go_wp2
  refine wp_loop_rounds 6 ?_
  rw [rounds_succ]
  by_cases g0 : n ≤ 1
  · go_wp2_with (go_at_call 53; refine (Slots_c _ _).mono ?_ ; rintro e w' ⟨rfl, dn, rfl⟩)
    go_ret
    exact ⟨ret_int (by unfold sOf; rw [if_neg (by omega)]; rw [if_pos (by omega)]), _, rfl⟩
  have g0' : 1 < n := by omega
  have g0'' : decide (n ≤ 1) = false := by simp; omega
  clear g0
  go_wp2_with (go_at_call 53; refine (Slots_c _ _).mono ?_ ; rintro e w' ⟨rfl, dn, rfl⟩)
  rw [rounds_succ]
  by_cases g1 : n ≤ 2
  · go_wp2_with (go_at_call 53; refine (Slots_c _ _).mono ?_ ; rintro e w' ⟨rfl, dn, rfl⟩)
    go_ret
    exact ⟨ret_int (by unfold sOf; rw [if_neg (by omega)]; rw [if_neg (by omega)]; rw [if_pos (by omega)]), _, rfl⟩
  have g1' : 2 < n := by omega
  have g1'' : decide (n ≤ 2) = false := by simp; omega
  clear g1
  go_wp2_with (go_at_call 53; refine (Slots_c _ _).mono ?_ ; rintro e w' ⟨rfl, dn, rfl⟩)
  rw [rounds_succ]
  by_cases g2 : n ≤ 4
  · go_wp2_with (go_at_call 53; refine (Slots_c _ _).mono ?_ ; rintro e w' ⟨rfl, dn, rfl⟩)
    go_ret
    exact ⟨ret_int (by unfold sOf; rw [if_neg (by omega)]; rw [if_neg (by omega)]; rw [if_neg (by omega)]; rw [if_pos (by omega)]), _, rfl⟩
  have g2' : 4 < n := by omega
  have g2'' : decide (n ≤ 4) = false := by simp; omega
  clear g2
  go_wp2_with (go_at_call 53; refine (Slots_c _ _).mono ?_ ; rintro e w' ⟨rfl, dn, rfl⟩)
  rw [rounds_succ]
  by_cases g3 : n ≤ 8
  · go_wp2_with (go_at_call 53; refine (Slots_c _ _).mono ?_ ; rintro e w' ⟨rfl, dn, rfl⟩)
    go_ret
    exact ⟨ret_int (by unfold sOf; rw [if_neg (by omega)]; rw [if_neg (by omega)]; rw [if_neg (by omega)]; rw [if_neg (by omega)]; rw [if_pos (by omega)]), _, rfl⟩
  have g3' : 8 < n := by omega
  have g3'' : decide (n ≤ 8) = false := by simp; omega
  clear g3
  go_wp2_with (go_at_call 53; refine (Slots_c _ _).mono ?_ ; rintro e w' ⟨rfl, dn, rfl⟩)
  rw [rounds_succ]
  by_cases g4 : n ≤ 16
  · go_wp2_with (go_at_call 53; refine (Slots_c _ _).mono ?_ ; rintro e w' ⟨rfl, dn, rfl⟩)
    go_ret
    exact ⟨ret_int (by unfold sOf; rw [if_neg (by omega)]; rw [if_neg (by omega)]; rw [if_neg (by omega)]; rw [if_neg (by omega)]; rw [if_neg (by omega)]; rw [if_pos (by omega)]), _, rfl⟩
  have g4' : 16 < n := by omega
  have g4'' : decide (n ≤ 16) = false := by simp; omega
  clear g4
  go_wp2_with (go_at_call 53; refine (Slots_c _ _).mono ?_ ; rintro e w' ⟨rfl, dn, rfl⟩)
  rw [rounds_succ]
  go_wp2_with (go_at_call 53; refine (Slots_c _ _).mono ?_ ; rintro e w' ⟨rfl, dn, rfl⟩)
  go_ret
  exact ⟨ret_int (by unfold sOf; repeat rw [if_neg (by omega)]), _, rfl⟩

theorem Of_c (n : Int) (w : World) : Calls Try.prog 34 #[.int .i64 n] w fun e w' => e = .returned (.int .i64 (sOf n)) ∧ ∃ m, w' = w.drewN m := by
  by_cases h : n < 0
  · exact Of_neg n h w
  · exact Of_pos n (by omega) w
end Go.Proofs.Ytmiaghbakdapbaa
