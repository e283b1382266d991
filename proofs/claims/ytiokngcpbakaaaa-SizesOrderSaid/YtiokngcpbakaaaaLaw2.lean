/- The walks of the statements of layer 2 (sizes): each answers true, and nothing that was there is changed. No condition but that the numbers are of their kinds. -/
import Derived.Test.YtiokngcpbakaaaaRef2
set_option linter.unusedVariables false
namespace Go.Proofs.Ytiokngcpbakaaaa
open Go.ChangeShapes Go.WideShapes Go.ChangeAt Go.RowKit

theorem awake2 (w : World) : Calls Try.prog 26 #[] w fun e w' => e = .returned (.bool true) ∧ Below w.heap.size w w' := by
  have f1 : sOf 3 = 2 := rfl
  have f2 : sSlots 2 = 4 := rfl
  have f3 : sWords 2 = 5 := rfl
  have f4 : sNodes 2 0 1 0 0 = 3 := rfl
  have f5 : sTotal 2 0 1 0 0 = 9 := rfl
  have f6 : sClass 2 0 1 0 0 3 = 2 := rfl
  have f7 : sClass 2 0 1 0 0 4 = -1 := rfl
  go_enter Try.func26, Try.ntmps26
  go_wp2_with (first
    | (go_at_call 27; refine (Of_c _ _).mono ?_ ; rintro e w' ⟨rfl, dn, rfl⟩)
    | (go_at_call 29; refine (Slots_c _ _).mono ?_ ; rintro e w' ⟨rfl, dn, rfl⟩)
    | (go_at_call 31; refine (Words_c _ _).mono ?_ ; rintro e w' ⟨rfl, dn, rfl⟩))
  refine (Nodes_c _ _ _ _ _ _).mono ?_
  rintro e w1 ⟨rfl, hb1⟩
  have B1 := (hb1.block _ (by simp)).trans (blk_new w _ _)
  have s1 := hb1.size
  simp at s1
  have hb1' := below_box w _ _ |>.trans (hb1.mono (by simp))
  clear hb1
  obtain ⟨c0, c1, c2, c3, c4, _⟩ := row5 B1
  go_wp2_with fail
  clear c0 c1 c2 c3 c4
  refine (Total_c _ _ _ _ _ _).mono ?_
  rintro e w2 ⟨rfl, hb2⟩
  have B2 := (hb2.block _ (by omega)).trans B1
  have s2 := hb2.size
  have hb2' := hb1'.trans (hb2.mono (by omega))
  clear hb2 B1
  obtain ⟨c0, c1, c2, c3, c4, _⟩ := row5 B2
  go_wp2_with fail
  clear c0 c1 c2 c3 c4
  refine (Class_c _ _ _ _ _ _ (by decide) _).mono ?_
  rintro e w3 ⟨rfl, hb3⟩
  have B3 := (hb3.block _ (by omega)).trans B2
  have s3 := hb3.size
  have hb3' := hb2'.trans (hb3.mono (by omega))
  clear hb3 B2
  obtain ⟨c0, c1, c2, c3, c4, _⟩ := row5 B3
  go_wp2_with fail
  clear c0 c1 c2 c3 c4
  refine (Class_c _ _ _ _ _ _ (by decide) _).mono ?_
  rintro e w4 ⟨rfl, hb4⟩
  have hb4' := hb3'.trans (hb4.mono (by omega))
  go_wp2_with fail
  go_ret
  exact ⟨rfl, hb4'⟩

theorem of_cases (m : Int) (h0 : 0 ≤ m) (h1 : m ≤ 16) : (m ≤ 1 ∧ sOf m = 0) ∨ (m = 2 ∧ sOf m = 1) ∨ (3 ≤ m ∧ m ≤ 4 ∧ sOf m = 2) ∨ (5 ≤ m ∧ m ≤ 8 ∧ sOf m = 3) ∨ (9 ≤ m ∧ sOf m = 4) := by
  unfold sOf
  repeat' split
  all_goals omega

theorem walk_SizesOf (n k : Int) (w : World) :
    Calls Try.prog 9 #[.int .i64 n, .int .i64 k] w fun e w' => e = .returned (.bool true) ∧ Below w.heap.size w w' := by
  go_enter Try.func9, Try.ntmps9
  go_wp2_with (go_at_call 26; refine (awake2 _).mono ?_ ; rintro e w1 ⟨rfl, hb⟩)
  go_wp2_with (first
    | (go_at_call 27; refine (Of_c _ _).mono ?_ ; rintro e w' ⟨rfl, dn, rfl⟩)
    | (go_at_call 29; refine (Slots_c _ _).mono ?_ ; rintro e w' ⟨rfl, dn, rfl⟩)
    | (go_at_call 31; refine (Words_c _ _).mono ?_ ; rintro e w' ⟨rfl, dn, rfl⟩)
    | (go_at_call 28; refine (ROf_c _ _).mono ?_ ; rintro e w' ⟨rfl, dn, rfl⟩)
    | (go_at_call 30; refine (RSlots_c _ _).mono ?_ ; rintro e w' ⟨rfl, dn, rfl⟩)
    | (go_at_call 32; refine (RWords_c _ _).mono ?_ ; rintro e w' ⟨rfl, dn, rfl⟩))
  go_ret
  exact ⟨rfl, below_drewN hb _⟩

theorem walk_SizesLeast (n : Int) (n0 : 0 ≤ n) (n1 : n < 256) (w : World) :
    Calls Try.prog 11 #[.int .u8 n] w fun e w' => e = .returned (.bool true) ∧ Below w.heap.size w w' := by
  have hm : 0 ≤ n % 20 := by omega
  have hm' : n % 20 < 20 := by omega
  by_cases hg : 16 < n % 20
  · have e1 : sOf (n % 20) = -1 := sOf_m1 _ (.inr hg)
    go_enter Try.func11, Try.ntmps11
    go_wp2_with (go_at_call 26; refine (awake2 _).mono ?_ ; rintro e w1 ⟨rfl, hb⟩)
    go_wp2_with (go_at_call 27; refine (Of_c _ _).mono ?_ ; rintro e w' ⟨rfl, dn, rfl⟩)
    go_ret
    exact ⟨rfl, below_drewN hb _⟩
  have hg' : n % 20 ≤ 16 := by omega
  have hg'' : decide (16 < n % 20) = false := by simp; omega
  have s0 := sSlots_0
  have s1 := sSlots_1
  have s2 := sSlots_2
  have s3 := sSlots_3
  have s4 := sSlots_4
  have t0 := sWords_0
  have t1 := sWords_1
  have t2 := sWords_2
  have t3 := sWords_3
  have t4 := sWords_4
  have sm : sSlots (-1) = 0 := rfl
  have u0 : sOf 0 = 0 := rfl
  have u2 : sOf 2 = 1 := rfl
  rcases of_cases _ hm hg' with ⟨g0, e1⟩ | ⟨g0, e1⟩ | ⟨g0, g1, e1⟩ | ⟨g0, g1, e1⟩ | ⟨g0, e1⟩
  case inl =>
    by_cases hz : n % 20 = 0
    all_goals
      go_enter Try.func11, Try.ntmps11
      go_wp2_with (go_at_call 26; refine (awake2 _).mono ?_ ; rintro e w1 ⟨rfl, hb⟩)
      go_wp2_with (first
        | (go_at_call 27; refine (Of_c _ _).mono ?_ ; rintro e w' ⟨rfl, dn, rfl⟩)
        | (go_at_call 29; refine (Slots_c _ _).mono ?_ ; rintro e w' ⟨rfl, dn, rfl⟩)
        | (go_at_call 31; refine (Words_c _ _).mono ?_ ; rintro e w' ⟨rfl, dn, rfl⟩))
      go_ret
      exact ⟨rfl, below_drewN hb _⟩
  all_goals
    have hz : (n % 20 == 0) = false := by rw [beq_eq_false_iff_ne]; omega
    go_enter Try.func11, Try.ntmps11
    go_wp2_with (go_at_call 26; refine (awake2 _).mono ?_ ; rintro e w1 ⟨rfl, hb⟩)
    go_wp2_with (first
      | (go_at_call 27; refine (Of_c _ _).mono ?_ ; rintro e w' ⟨rfl, dn, rfl⟩)
      | (go_at_call 29; refine (Slots_c _ _).mono ?_ ; rintro e w' ⟨rfl, dn, rfl⟩)
      | (go_at_call 31; refine (Words_c _ _).mono ?_ ; rintro e w' ⟨rfl, dn, rfl⟩))
    go_ret
    exact ⟨rfl, below_drewN hb _⟩

theorem fit_facts (p q : Int) (h0 : 0 ≤ p) (h1 : p ≤ q) (h2 : q ≤ 16) : 0 ≤ sOf p ∧ sOf p ≤ sOf q ∧ sOf q ≤ 4 ∧ sSlots (sOf p) ≤ sSlots (sOf q) ∧ sWords (sOf p) ≤ sWords (sOf q) ∧
    ((sOf p == sOf q) == (sSlots (sOf p) == sSlots (sOf q))) = true ∧ (sOf (sSlots (sOf q)) == sOf q) = true := by
  rcases of_cases p h0 (by omega) with ⟨g0, e1⟩ | ⟨g0, e1⟩ | ⟨g0, g1, e1⟩ | ⟨g0, g1, e1⟩ | ⟨g0, e1⟩ <;>
    rcases of_cases q (by omega) h2 with ⟨k0, e2⟩ | ⟨k0, e2⟩ | ⟨k0, k1, e2⟩ | ⟨k0, k1, e2⟩ | ⟨k0, e2⟩ <;>
    first
      | (exfalso; omega)
      | (rw [e1, e2]; decide)

theorem walk_SizesFit (m n : Int) (m0 : 0 ≤ m) (m1 : m < 256) (n0 : 0 ≤ n) (n1 : n < 256) (w : World) :
    Calls Try.prog 13 #[.int .u8 m, .int .u8 n] w fun e w' => e = .returned (.bool true) ∧ Below w.heap.size w w' := by
  by_cases h : m % 17 < n % 17
  · obtain ⟨f0, f1, f2, f3, f4, f5, f6⟩ := fit_facts (m % 17) (n % 17) (by omega) (by omega) (by omega)
    have h' : ¬ n % 17 < m % 17 := by omega
    go_enter Try.func13, Try.ntmps13
    go_wp2_with (go_at_call 26; refine (awake2 _).mono ?_ ; rintro e w1 ⟨rfl, hb⟩)
    go_wp2_with (first
      | (go_at_call 27; refine (Of_c _ _).mono ?_ ; rintro e w' ⟨rfl, dn, rfl⟩)
      | (go_at_call 29; refine (Slots_c _ _).mono ?_ ; rintro e w' ⟨rfl, dn, rfl⟩)
      | (go_at_call 31; refine (Words_c _ _).mono ?_ ; rintro e w' ⟨rfl, dn, rfl⟩))
    go_ret
    exact ⟨rfl, below_drewN hb _⟩
  · obtain ⟨f0, f1, f2, f3, f4, f5, f6⟩ := fit_facts (n % 17) (m % 17) (by omega) (by omega) (by omega)
    by_cases h' : n % 17 < m % 17
    all_goals
      go_enter Try.func13, Try.ntmps13
      go_wp2_with (go_at_call 26; refine (awake2 _).mono ?_ ; rintro e w1 ⟨rfl, hb⟩)
      go_wp2_with (first
        | (go_at_call 27; refine (Of_c _ _).mono ?_ ; rintro e w' ⟨rfl, dn, rfl⟩)
        | (go_at_call 29; refine (Slots_c _ _).mono ?_ ; rintro e w' ⟨rfl, dn, rfl⟩)
        | (go_at_call 31; refine (Words_c _ _).mono ?_ ; rintro e w' ⟨rfl, dn, rfl⟩))
      go_ret
      exact ⟨rfl, below_drewN hb _⟩

end Go.Proofs.Ytiokngcpbakaaaa
