/- Configurations: which may be, and what Check tells. No condition. -/
import Derived.Test.YtmiaghbakdapbaaSizes
import Derived.Test.YtmiaghbakdapbaaOwn
import Derived.LoopN
set_option linter.unusedVariables false
namespace Go.Proofs.Ytmiaghbakdapbaa
open Go.ChangeShapes Go.WideShapes Go.ChangeAt Go.RowKit

structure Cfg where
  c0 : Int
  c1 : Int
  c2 : Int
  c3 : Int
  c4 : Int
  mr : Int
  mu : Int
  dq : Int
  ch : Int
  bf : Int
  rt : Int
  sw : Int

def cfgCells (c : Cfg) : Array Value := #[.int .i64 c.c0, .int .i64 c.c1, .int .i64 c.c2, .int .i64 c.c3, .int .i64 c.c4, .int .i64 c.mr, .int .i64 c.mu, .int .i64 c.dq, .int .i64 c.ch, .int .i64 c.bf, .int .i64 c.rt, .int .i64 c.sw]
def cfgV (c : Cfg) : Value := .agg (cfgCells c)

def inB (n lo hi : Int) : Bool := decide (lo ≤ n) && decide (n ≤ hi)

/-- Which configurations may be. -/
def cfgOk (c : Cfg) : Bool :=
  inB c.c0 0 12 && inB c.c1 0 12 && inB c.c2 0 12 && inB c.c3 0 12 && inB c.c4 0 12 && inB c.mr 1 4 && inB c.mu 1 4 && inB c.dq 2 8 && inB c.ch 1 16 && inB c.bf 1 4 && inB c.rt 1 8 && inB c.sw 1 16 && !(sNodes c.c0 c.c1 c.c2 c.c3 c.c4 == 0)

theorem inB_iff {n lo hi : Int} : inB n lo hi = true ↔ lo ≤ n ∧ n ≤ hi := by simp [inB]

structure CfgOk (c : Cfg) : Prop where
  c0 : 0 ≤ c.c0 ∧ c.c0 ≤ 12
  c1 : 0 ≤ c.c1 ∧ c.c1 ≤ 12
  c2 : 0 ≤ c.c2 ∧ c.c2 ≤ 12
  c3 : 0 ≤ c.c3 ∧ c.c3 ≤ 12
  c4 : 0 ≤ c.c4 ∧ c.c4 ≤ 12
  mr : 1 ≤ c.mr ∧ c.mr ≤ 4
  mu : 1 ≤ c.mu ∧ c.mu ≤ 4
  dq : 2 ≤ c.dq ∧ c.dq ≤ 8
  ch : 1 ≤ c.ch ∧ c.ch ≤ 16
  bf : 1 ≤ c.bf ∧ c.bf ≤ 4
  rt : 1 ≤ c.rt ∧ c.rt ≤ 8
  sw : 1 ≤ c.sw ∧ c.sw ≤ 16
  nodes : ¬ sNodes c.c0 c.c1 c.c2 c.c3 c.c4 = 0

theorem cfgOk_iff (c : Cfg) : cfgOk c = true ↔ CfgOk c := by
  unfold cfgOk
  simp only [Bool.and_eq_true, inB_iff, Bool.not_eq_true', beq_eq_false_iff_ne]
  constructor
  · rintro ⟨⟨⟨⟨⟨⟨⟨⟨⟨⟨⟨⟨h0, h1⟩, h2⟩, h3⟩, h4⟩, h5⟩, h6⟩, h7⟩, h8⟩, h9⟩, h10⟩, h11⟩, h12⟩
    exact ⟨h0, h1, h2, h3, h4, h5, h6, h7, h8, h9, h10, h11, h12⟩
  · rintro ⟨h0, h1, h2, h3, h4, h5, h6, h7, h8, h9, h10, h11, h12⟩
    exact ⟨⟨⟨⟨⟨⟨⟨⟨⟨⟨⟨⟨h0, h1⟩, h2⟩, h3⟩, h4⟩, h5⟩, h6⟩, h7⟩, h8⟩, h9⟩, h10⟩, h11⟩, h12⟩

theorem In_c (n lo hi : Int) (w : World) : Calls Try.prog 71 #[.int .i64 n, .int .i64 lo, .int .i64 hi] w fun e w' => e = .returned (.bool (inB n lo hi)) ∧ ∃ m, w' = w.drewN m := by
  by_cases h0 : lo ≤ n
  · by_cases h1 : n ≤ hi
    · have E : inB n lo hi = true := inB_iff.2 ⟨h0, h1⟩
      rw [E]
      clear E
      go_enter Try.func71, Try.ntmps71
      go_wp2
      go_ret
      exact ⟨rfl, 0, rfl⟩
    · have E : inB n lo hi = false := by simp [inB, h1]
      rw [E]
      clear E
      go_enter Try.func71, Try.ntmps71
      go_wp2
      go_ret
      exact ⟨rfl, 0, rfl⟩
  · have E : inB n lo hi = false := by simp [inB, h0]
    rw [E]
    clear E
    go_enter Try.func71, Try.ntmps71
    go_wp2
    go_ret
    exact ⟨rfl, 0, rfl⟩

section
attribute [local go_sem] ix0 ix1 ix2 ix3 ix4

set_option maxRecDepth 100000 in
set_option maxHeartbeats 2000000 in
theorem Check_ok (c : Cfg) (h : CfgOk c) (w : World) : Calls Try.prog 51 #[cfgV c] w fun e w' => e = .returned (.int .i64 0) ∧ Below w.heap.size w w' := by
  obtain ⟨c0, c1, c2, c3, c4, mr, mu, dq, ch, bf, rt, sw⟩ := c
  obtain ⟨h0, h1, h2, h3, h4, h5, h6, h7, h8, h9, h10, h11, h12⟩ := h
  dsimp only at h0 h1 h2 h3 h4 h5 h6 h7 h8 h9 h10 h11 h12
  have i0 := inB_iff.2 h0; have i1 := inB_iff.2 h1; have i2 := inB_iff.2 h2; have i3 := inB_iff.2 h3; have i4 := inB_iff.2 h4
  have i5 := inB_iff.2 h5; have i6 := inB_iff.2 h6; have i7 := inB_iff.2 h7; have i8 := inB_iff.2 h8; have i9 := inB_iff.2 h9
  have i10 := inB_iff.2 h10; have i11 := inB_iff.2 h11
  have i12 : (sNodes c0 c1 c2 c3 c4 == 0) = false := by simpa using h12
  clear h0 h1 h2 h3 h4 h5 h6 h7 h8 h9 h10 h11 h12
  unfold cfgV cfgCells
  go_enter Try.func51, Try.ntmps51
  go_wp2_with fail
  refine wp_loop_rounds 6 ?_
  rw [rounds_succ]
  go_wp2_with (go_at_call 71; refine (In_c _ _ _ _).mono ?_; rintro e w1 ⟨rfl, n1, rfl⟩)
  rw [rounds_succ]
  go_wp2_with (go_at_call 71; refine (In_c _ _ _ _).mono ?_; rintro e w1 ⟨rfl, n2, rfl⟩)
  rw [rounds_succ]
  go_wp2_with (go_at_call 71; refine (In_c _ _ _ _).mono ?_; rintro e w1 ⟨rfl, n3, rfl⟩)
  rw [rounds_succ]
  go_wp2_with (go_at_call 71; refine (In_c _ _ _ _).mono ?_; rintro e w1 ⟨rfl, n4, rfl⟩)
  rw [rounds_succ]
  go_wp2_with (go_at_call 71; refine (In_c _ _ _ _).mono ?_; rintro e w1 ⟨rfl, n5, rfl⟩)
  rw [rounds_succ]
  go_wp2_with (first | (go_at_call 71; refine (In_c _ _ _ _).mono ?_; rintro e w1 ⟨rfl, n6, rfl⟩) | (go_at_call 52; refine (Nodes_c _ _ _ _ _ _).mono ?_; rintro e w2 ⟨rfl, b2⟩))
  go_ret
  refine ⟨rfl, ?_⟩
  exact (below_drewN (below_box w _ 0) _).trans (b2.mono (by simp))
end

end Go.Proofs.Ytmiaghbakdapbaa
