/- The walks of the six statements of layer 1 (words): each answers true, and nothing that was there is changed. No condition but that the numbers are of their kinds. -/
import Derived.Test.YtiokngcpbakaaaaWords2
set_option linter.unusedVariables false
namespace Go.Proofs.Ytiokngcpbakaaaa
open Go.ChangeShapes Go.WideShapes Go.ChangeAt Go.RowKit

theorem grown_drewN (w : World) (n : Nat) : Grown w (w.drewN n) := Grown.refl w

theorem awake1 (w : World) : Calls Try.prog 14 #[] w fun e w' => e = .returned (.bool true) ∧ ∃ n, w' = w.drewN n := by
  have f1 : wPhase 3 4 = 28 := by decide
  have f2 : wAhead 0 1 = -1 := by unfold wAhead wrap64; omega
  have f3 : wTurn 4294967298 9 = 8589934601 := by decide
  go_enter Try.func14, Try.ntmps14
  go_wp2_with (first
    | (go_at_call 15; refine (Cycle_c _ (by decide) (by decide) _).mono ?_ ; rintro e w' ⟨rfl, n, rfl⟩)
    | (go_at_call 16; refine (Phase_c _ _ (by decide) (by decide) _).mono ?_ ; rintro e w' ⟨rfl, n, rfl⟩)
    | (go_at_call 19; refine (Pair_c _ _ (by decide) (by decide) (by decide) (by decide) _).mono ?_ ; rintro e w' ⟨rfl, n, rfl⟩)
    | (go_at_call 24; refine (Ahead_c _ _ _).mono ?_ ; rintro e w' ⟨rfl, n, rfl⟩)
    | (go_at_call 23; refine (Turn_c _ _ (by decide) (by decide) (by decide) (by decide) _).mono ?_ ; rintro e w' ⟨rfl, n, rfl⟩))
  go_ret
  exact ⟨rfl, _, rfl⟩

theorem walk_WordsPhase (c p x : Int) (c0 : 0 ≤ c) (c1 : c < 18446744073709551616) (x0 : 0 ≤ x) (x1 : x < 18446744073709551616) (w : World) :
    Calls Try.prog 3 #[.int .u64 c, .int .i64 p, .int .u64 x] w fun e w' => e = .returned (.bool true) ∧ Grown w w' := by
  have e2 : wrap64 (x % 8) = x % 8 := by unfold wrap64; omega
  go_enter Try.func3, Try.ntmps3
  go_wp2_with (first
    | (go_at_call 14; refine (awake1 _).mono ?_ ; rintro e w' ⟨rfl, n, rfl⟩)
    | (go_at_call 15; refine (Cycle_c _ x0 x1 _).mono ?_ ; rintro e w' ⟨rfl, n, rfl⟩)
    | (go_at_call 16; refine (Phase_c _ _ c0 c1 _).mono ?_ ; rintro e w' ⟨rfl, n, rfl⟩)
    | (go_at_call 17; refine (RPhase_c _ _ c0 c1 _).mono ?_ ; rintro e w' ⟨rfl, n, rfl⟩))
  go_ret
  exact ⟨rfl, grown_drewN _ _⟩

theorem walk_WordsPair (h l x : Int) (h0 : 0 ≤ h) (h1 : h < 4294967296) (l0 : 0 ≤ l) (l1 : l < 4294967296) (x0 : 0 ≤ x) (x1 : x < 18446744073709551616) (w : World) :
    Calls Try.prog 4 #[.int .u32 h, .int .u32 l, .int .u64 x] w fun e w' => e = .returned (.bool true) ∧ Grown w w' := by
  have e : ∀ a : Int, IntKind.u32.wrap a = a % 4294967296 := fun a => by simp [IntKind.wrap, IntKind.bits, IntKind.signed]
  have f : (wTurn x l == (x / 4294967296 + 1) % 4294967296 * 4294967296 + l) = true := by unfold wTurn; simp
  go_enter Try.func4, Try.ntmps4
  go_wp2_with (first
    | (go_at_call 14; refine (awake1 _).mono ?_ ; rintro e w' ⟨rfl, n, rfl⟩)
    | (go_at_call 18; refine (Split_c _ x0 x1 _).mono ?_ ; rintro e w' ⟨rfl, n, rfl⟩)
    | (go_at_call 19; refine (Pair_c _ _ h0 h1 l0 l1 _).mono ?_ ; rintro e w' ⟨rfl, n, rfl⟩)
    | (go_at_call 23; refine (Turn_c _ _ x0 x1 l0 l1 _).mono ?_ ; rintro e w' ⟨rfl, n, rfl⟩)
    | (go_at_call 21; refine (RHigh_c _ x0 x1 _).mono ?_ ; rintro e w' ⟨rfl, n, rfl⟩)
    | (go_at_call 22; refine (RLow_c _ x0 x1 _).mono ?_ ; rintro e w' ⟨rfl, n, rfl⟩)
    | (go_at_call 20; refine (RPair_c _ _ (by omega) (by omega) l0 l1 _).mono ?_ ; rintro e w' ⟨rfl, n, rfl⟩))
  go_ret
  exact ⟨rfl, grown_drewN _ _⟩

theorem ahead_law1 (a b : Int) (_a0 : 0 ≤ a) (_a1 : a < 18446744073709551616) (_b0 : 0 ≤ b) (_b1 : b < 18446744073709551616) :
    (IntKind.u64.wrap (wAhead a b) == IntKind.u64.wrap (a - b)) = true ∧ (wAhead b a == wrap64 (-wAhead a b)) = true ∧ ((wAhead a b == 0) == (a == b)) = true := by
  simp only [IntKind.wrap_u64, beq_iff_eq]
  unfold wAhead wrap64
  refine ⟨by omega, by omega, ?_⟩
  by_cases h : a = b
  · subst h; simp
  · rw [beq_eq_false_iff_ne.2 h, beq_eq_false_iff_ne]; omega

theorem walk_WordsAhead (a b : Int) (a0 : 0 ≤ a) (a1 : a < 18446744073709551616) (b0 : 0 ≤ b) (b1 : b < 18446744073709551616) (w : World) :
    Calls Try.prog 5 #[.int .u64 a, .int .u64 b] w fun e w' => e = .returned (.bool true) ∧ Grown w w' := by
  obtain ⟨g1, g2, g3⟩ := ahead_law1 a b a0 a1 b0 b1
  go_enter Try.func5, Try.ntmps5
  go_wp2_with (first
    | (go_at_call 14; refine (awake1 _).mono ?_ ; rintro e w' ⟨rfl, n, rfl⟩)
    | (go_at_call 24; refine (Ahead_c _ _ _).mono ?_ ; rintro e w' ⟨rfl, n, rfl⟩)
    | (go_at_call 25; refine (RAhead_c _ _ a0 a1 b0 b1 _).mono ?_ ; rintro e w' ⟨rfl, n, rfl⟩))
  go_ret
  exact ⟨rfl, grown_drewN _ _⟩

theorem walk_WordsBack (c p h l x : Int) (c0 : 0 ≤ c) (c1 : c < 18446744073709551616) (p0 : 0 ≤ p) (p1 : p < 256) (h0 : 0 ≤ h) (h1 : h < 4294967296) (l0 : 0 ≤ l) (l1 : l < 4294967296) (x0 : 0 ≤ x) (x1 : x < 18446744073709551616) (w : World) :
    Calls Try.prog 6 #[.int .u64 c, .int .u8 p, .int .u32 h, .int .u32 l, .int .u64 x] w fun e w' => e = .returned (.bool true) ∧ Grown w w' := by
  have e1 : wPhase (c % 2305843009213693952) (p % 8) = c % 2305843009213693952 * 8 + p % 8 := by unfold wPhase; omega
  have e2 : (c % 2305843009213693952 * 8 + p % 8) / 8 = c % 2305843009213693952 := by omega
  have e3 : (c % 2305843009213693952 * 8 + p % 8) % 8 = p % 8 := by omega
  have e4 : (h * 4294967296 + l) / 4294967296 = h := by omega
  have e5 : (h * 4294967296 + l) % 4294967296 = l := by omega
  have e6 : wPhase (x / 8) (x % 8) = x := by unfold wPhase; omega
  have e7 : x / 4294967296 * 4294967296 + x % 4294967296 = x := by omega
  have g1 : 0 ≤ c % 2305843009213693952 * 8 + p % 8 := by omega
  have g2 : c % 2305843009213693952 * 8 + p % 8 < 18446744073709551616 := by omega
  have g3 : 0 ≤ h * 4294967296 + l := by omega
  have g4 : h * 4294967296 + l < 18446744073709551616 := by omega
  go_enter Try.func6, Try.ntmps6
  go_wp2_with (first
    | (go_at_call 14; refine (awake1 _).mono ?_ ; rintro e w' ⟨rfl, n, rfl⟩)
    | (go_at_call 15; refine (Cycle_c _ (by omega) (by omega) _).mono ?_ ; rintro e w' ⟨rfl, n, rfl⟩)
    | (go_at_call 16; refine (Phase_c _ _ (by omega) (by omega) _).mono ?_ ; rintro e w' ⟨rfl, n, rfl⟩)
    | (go_at_call 18; refine (Split_c _ (by omega) (by omega) _).mono ?_ ; rintro e w' ⟨rfl, n, rfl⟩)
    | (go_at_call 19; refine (Pair_c _ _ (by omega) (by omega) (by omega) (by omega) _).mono ?_ ; rintro e w' ⟨rfl, n, rfl⟩))
  go_ret
  exact ⟨rfl, grown_drewN _ _⟩

def turned (h : Int) : Nat → Int
  | 0 => h
  | k + 1 => (turned h k + 1) % 4294967296

theorem turned_lo (h : Int) (h0 : 0 ≤ h) (k : Nat) : 0 ≤ turned h k := by
  cases k with
  | zero => exact h0
  | succ k => unfold turned; omega
theorem turned_hi (h : Int) (h1 : h < 4294967296) (k : Nat) : turned h k < 4294967296 := by
  cases k with
  | zero => exact h1
  | succ k => unfold turned; omega

theorem turn_facts (y x l : Int) (_l0 : 0 ≤ l) (_l1 : l < 4294967296) (_x0 : 0 ≤ x) (hy : y = wTurn x l) : y / 4294967296 = (x / 4294967296 + 1) % 4294967296 ∧ y % 4294967296 = l ∧ ¬ y = x ∧ 0 ≤ y ∧ y < 18446744073709551616 := by
  unfold wTurn at hy
  omega

theorem walk_WordsTurn (x l n : Int) (x0 : 0 ≤ x) (x1 : x < 18446744073709551616) (l0 : 0 ≤ l) (l1 : l < 4294967296) (n0 : 0 ≤ n) (n1 : n < 256) (w : World) :
    Calls Try.prog 7 #[.int .u64 x, .int .u32 l, .int .u8 n] w fun e w' => e = .returned (.bool true) ∧ Grown w w' := by
  have e : ∀ a : Int, IntKind.u32.wrap a = a % 4294967296 := fun a => by simp [IntKind.wrap, IntKind.bits, IntKind.signed]
  go_enter Try.func7, Try.ntmps7
  go_wp2_with (first
    | (go_at_call 14; refine (awake1 _).mono ?_ ; rintro e w' ⟨rfl, m, rfl⟩)
    | (go_at_call 18; refine (Split_c _ (by omega) (by omega) _).mono ?_ ; rintro e w' ⟨rfl, m, rfl⟩))
  go_loopw [8, 9, 11] (fun xv hv iv wr => ∃ (k : Nat) (y : Int), k ≤ n ∧ 0 ≤ y ∧ y < 18446744073709551616 ∧ xv = .int .u64 y ∧ hv = .int .u32 (y / 4294967296) ∧ iv = .int .i64 k ∧ ∃ m, wr = w.drewN m) (fun _ _ i _ => 256 - (intOf i).toNat)
  case atStart => exact ⟨0, x, by omega, by omega, by omega, rfl, rfl, rfl, _, rfl⟩
  case round =>
    obtain ⟨k, y, hk, y0, y1, rfl, rfl, rfl, m, rfl⟩ := hrel
    obtain ⟨f1, f2, f3, f4, f5⟩ := turn_facts _ y l l0 l1 y0 rfl
    have g1 := Lib.hid f1
    clear f1
    have f1' : (wTurn y l / 4294967296 == (y / 4294967296 + 1) % 4294967296) = true := by rw [g1.out]; simp
    by_cases hlt : (k : Int) < n
    · go_wp2_with (first
        | (go_at_call 23; refine (Turn_c _ _ y0 y1 l0 l1 _).mono ?_ ; rintro e w' ⟨rfl, n, rfl⟩)
        | (go_at_call 18; refine (Split_c _ f4 f5 _).mono ?_ ; rintro e w' ⟨rfl, n, rfl⟩))
      go_round
      case rel => exact ⟨k + 1, _, by omega, f4, f5, rfl, by rw [g1.out], by go_num, _, rfl⟩
      case measure => simp [intOf]; omega
    · have hlt' : decide ((k : Int) < n) = false := by simpa using hlt
      go_wp2
      go_ret
      exact ⟨rfl, grown_drewN _ _⟩

theorem walk_WordsOrder (a b c d n p q : Int) (a0 : 0 ≤ a) (a1 : a < 4294967296) (b0 : 0 ≤ b) (b1 : b < 4294967296) (c0 : 0 ≤ c) (c1 : c < 4294967296) (d0 : 0 ≤ d) (d1 : d < 4294967296) (n0 : 0 ≤ n) (n1 : n < 4294967296) (p0 : 0 ≤ p) (p1 : p < 256) (q0 : 0 ≤ q) (q1 : q < 256) (w : World) :
    Calls Try.prog 8 #[.int .u32 a, .int .u32 b, .int .u32 c, .int .u32 d, .int .u32 n, .int .u8 p, .int .u8 q] w fun e w' => e = .returned (.bool true) ∧ Grown w w' := by
  have hp : wPhase n (p % 8) < wPhase (n + 1) (q % 8) := by unfold wPhase; omega
  by_cases h1 : a < c
  · have h2 : (a == c) = false := by rw [beq_eq_false_iff_ne]; omega
    have h3 : a * 4294967296 + b < c * 4294967296 + d := by omega
    have h4 : (a * 4294967296 + b == c * 4294967296 + d) = false := by rw [beq_eq_false_iff_ne]; omega
    go_enter Try.func8, Try.ntmps8
    go_wp2_with (first
      | (go_at_call 14; refine (awake1 _).mono ?_ ; rintro e w' ⟨rfl, n, rfl⟩)
      | (go_at_call 16; refine (Phase_c _ _ (by omega) (by omega) _).mono ?_ ; rintro e w' ⟨rfl, n, rfl⟩)
      | (go_at_call 19; refine (Pair_c _ _ (by omega) (by omega) (by omega) (by omega) _).mono ?_ ; rintro e w' ⟨rfl, n, rfl⟩))
    go_ret
    exact ⟨rfl, grown_drewN _ _⟩
  by_cases h2 : a = c
  · subst h2
    have e : (a * 4294967296 + b == a * 4294967296 + d) = (b == d) := by
      by_cases h : b = d
      · subst h; simp
      · rw [beq_eq_false_iff_ne.2 h, beq_eq_false_iff_ne]; omega
    have e2 : (decide (a * 4294967296 + b < a * 4294967296 + d) == decide (b < d)) = true := by
      rw [beq_iff_eq, decide_eq_decide]; omega
    go_enter Try.func8, Try.ntmps8
    go_wp2_with (first
      | (go_at_call 14; refine (awake1 _).mono ?_ ; rintro e w' ⟨rfl, n, rfl⟩)
      | (go_at_call 16; refine (Phase_c _ _ (by omega) (by omega) _).mono ?_ ; rintro e w' ⟨rfl, n, rfl⟩)
      | (go_at_call 19; refine (Pair_c _ _ (by omega) (by omega) (by omega) (by omega) _).mono ?_ ; rintro e w' ⟨rfl, n, rfl⟩))

    all_goals go_ret
    all_goals exact ⟨rfl, grown_drewN _ _⟩
  · have h2' : (a == c) = false := by rw [beq_eq_false_iff_ne]; omega
    have h1' : decide (a < c) = false := by simpa using h1
    have h3 : ¬ a * 4294967296 + b < c * 4294967296 + d := by omega
    have h3' : decide (a * 4294967296 + b < c * 4294967296 + d) = false := by simpa using h3
    have h4 : (a * 4294967296 + b == c * 4294967296 + d) = false := by rw [beq_eq_false_iff_ne]; omega
    go_enter Try.func8, Try.ntmps8
    go_wp2_with (first
      | (go_at_call 14; refine (awake1 _).mono ?_ ; rintro e w' ⟨rfl, n, rfl⟩)
      | (go_at_call 16; refine (Phase_c _ _ (by omega) (by omega) _).mono ?_ ; rintro e w' ⟨rfl, n, rfl⟩)
      | (go_at_call 19; refine (Pair_c _ _ (by omega) (by omega) (by omega) (by omega) _).mono ?_ ; rintro e w' ⟨rfl, n, rfl⟩))
    go_ret
    exact ⟨rfl, grown_drewN _ _⟩
end Go.Proofs.Ytiokngcpbakaaaa
