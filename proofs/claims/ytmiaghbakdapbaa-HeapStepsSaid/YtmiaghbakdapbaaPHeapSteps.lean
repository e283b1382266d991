/- The row of dustman/dustmanlaw19.HeapSteps: for every input the law returns true; each argument reads behind the call as it read before. No condition. -/
import Derived.Test.YtmiaghbakdapbaaLaw19f
import Derived.Test.YtmiaghbakdapbaaOpen
import Derived.WalkKit
import Derived.ProofKit
import Derived.OpenShut
import Derived.ChangeOld
import Derived.Below
namespace Go.Proofs.Ytmiaghbakdapbaa.heapSteps
open Go.ChangeShapes Go.WideShapes Go.ChangeAt Go.RowKit Go.Proofs.Ytmiaghbakdapbaa
set_option linter.unusedVariables false

theorem own : ownKnob Try.prog.godebug = none := by kernel_rfl
theorem laidOut : laidOutB Try.prog = true := by kernel_rfl

set_option maxRecDepth 100000 in
theorem lifted (os : Os) (started : os.Started) (H : Type) (enc : TypeId × Value → H) :
    ReturnsInHanded {} Try.checked os 4 .any (Rows.heapStepsSpec.pre6 enc Try.prog Try.f4 Rows.heapStepsRow.domain false) (Rows.heapStepsSpec.post enc Try.prog Try.f4 false true false false) := by
  refine returnsInHanded_of_change (C := Try.checked) own started (by kernel_rfl) Try.func4
    (ChangeSpec.witness6 (enc := enc) (C := Try.checked) false ⟨#[], #[.agg #[.int .i64 0, .int .i64 0, .int .i64 0, .int .i64 0, .int .i64 0, .int .i64 0, .int .i64 0, .int .i64 0, .int .i64 0, .int .i64 0, .int .i64 0, .int .i64 0], .int .i64 0, .int .u64 0, .slice none 0 0, .slice none 0 0], []⟩ 8 (by kernel_rfl) (by kernel_rfl) (by kernel_rfl) (by kernel_rfl)) ?_
  intro W base args ds gs before hval0 hW hcnd _
  have hval : ∀ (j : Nat) t v, Try.f4.params[j]? = some t → args[j]? = some v → Value.okWide Try.prog W .any base t v := hval0
  have hW' := hW
  obtain ⟨p, q, hA0, hV, rfl, hfz, hnd⟩ := hW
  have hA : DataW.TrodAll enc Try.prog W 0 (fun _ => true) true Try.f4.params.toList args.toList ds p := hA0
  rw [Try.params4] at hA hval
  obtain ⟨v0, vs0, d0, ds0, p0, qq0, hargs, rfl, rfl, h0, rr0⟩ := trodAll_cons hA
  obtain ⟨v1, vs1, d1, ds1, p1, qq1, rfl, rfl, rfl, h1, rr1⟩ := trodAll_cons rr0
  obtain ⟨v2, vs2, d2, ds2, p2, qq2, rfl, rfl, rfl, h2, rr2⟩ := trodAll_cons rr1
  obtain ⟨v3, vs3, d3, ds3, p3, qq3, rfl, rfl, rfl, h3, rr3⟩ := trodAll_cons rr2
  obtain ⟨v4, vs4, d4, ds4, p4, qq4, rfl, rfl, rfl, h4, rr4⟩ := trodAll_cons rr3
  obtain ⟨rfl, rfl, rfl⟩ := trodAll_nil rr4
  obtain rfl : args = #[v0, v1, v2, v3, v4] := by cases args; simp_all
  obtain ⟨rfl, rfl⟩ := trodVars_none hV
  have k0 := h0
  have lt0 : ∀ x ∈ p0, x.block < W.heap.size := by obtain ⟨m, hm⟩ := k0; exact DataW.trod_lt m _ _ _ hm
  obtain ⟨m0, f0⟩ := h0
  obtain ⟨cs0, rfl, _⟩ := okWide_struct Try.underlying24 (hval 0 24 v0 rfl rfl)
  have q0 := flat_ok 4 24 [.int .i64, .int .i64, .int .i64, .int .i64, .int .i64, .int .i64, .int .i64, .int .i64, .int .i64, .int .i64, .int .i64, .int .i64] (by kernel_rfl) _ _ _ f0
  obtain ⟨u0_0, _, e0_0, o0_0, q0_0⟩ := scal_cons q0
  obtain ⟨u0_1, _, e0_1, o0_1, q0_1⟩ := scal_cons q0_0
  subst e0_1
  obtain ⟨u0_2, _, e0_2, o0_2, q0_2⟩ := scal_cons q0_1
  subst e0_2
  obtain ⟨u0_3, _, e0_3, o0_3, q0_3⟩ := scal_cons q0_2
  subst e0_3
  obtain ⟨u0_4, _, e0_4, o0_4, q0_4⟩ := scal_cons q0_3
  subst e0_4
  obtain ⟨u0_5, _, e0_5, o0_5, q0_5⟩ := scal_cons q0_4
  subst e0_5
  obtain ⟨u0_6, _, e0_6, o0_6, q0_6⟩ := scal_cons q0_5
  subst e0_6
  obtain ⟨u0_7, _, e0_7, o0_7, q0_7⟩ := scal_cons q0_6
  subst e0_7
  obtain ⟨u0_8, _, e0_8, o0_8, q0_8⟩ := scal_cons q0_7
  subst e0_8
  obtain ⟨u0_9, _, e0_9, o0_9, q0_9⟩ := scal_cons q0_8
  subst e0_9
  obtain ⟨u0_10, _, e0_10, o0_10, q0_10⟩ := scal_cons q0_9
  subst e0_10
  obtain ⟨u0_11, _, e0_11, o0_11, q0_11⟩ := scal_cons q0_10
  subst e0_11
  have n0 := scal_nil q0_11
  subst n0
  obtain rfl : cs0 = #[u0_0, u0_1, u0_2, u0_3, u0_4, u0_5, u0_6, u0_7, u0_8, u0_9, u0_10, u0_11] := by
    have := e0_0
    simp only [Value.cells] at this
    exact Array.toList_inj.1 this
  obtain ⟨a0_0, rfl, w0_0⟩ := kd_int o0_0
  obtain ⟨bl0_0, bh0_0⟩ := Go.bounds_i64 w0_0
  obtain ⟨a0_1, rfl, w0_1⟩ := kd_int o0_1
  obtain ⟨bl0_1, bh0_1⟩ := Go.bounds_i64 w0_1
  obtain ⟨a0_2, rfl, w0_2⟩ := kd_int o0_2
  obtain ⟨bl0_2, bh0_2⟩ := Go.bounds_i64 w0_2
  obtain ⟨a0_3, rfl, w0_3⟩ := kd_int o0_3
  obtain ⟨bl0_3, bh0_3⟩ := Go.bounds_i64 w0_3
  obtain ⟨a0_4, rfl, w0_4⟩ := kd_int o0_4
  obtain ⟨bl0_4, bh0_4⟩ := Go.bounds_i64 w0_4
  obtain ⟨a0_5, rfl, w0_5⟩ := kd_int o0_5
  obtain ⟨bl0_5, bh0_5⟩ := Go.bounds_i64 w0_5
  obtain ⟨a0_6, rfl, w0_6⟩ := kd_int o0_6
  obtain ⟨bl0_6, bh0_6⟩ := Go.bounds_i64 w0_6
  obtain ⟨a0_7, rfl, w0_7⟩ := kd_int o0_7
  obtain ⟨bl0_7, bh0_7⟩ := Go.bounds_i64 w0_7
  obtain ⟨a0_8, rfl, w0_8⟩ := kd_int o0_8
  obtain ⟨bl0_8, bh0_8⟩ := Go.bounds_i64 w0_8
  obtain ⟨a0_9, rfl, w0_9⟩ := kd_int o0_9
  obtain ⟨bl0_9, bh0_9⟩ := Go.bounds_i64 w0_9
  obtain ⟨a0_10, rfl, w0_10⟩ := kd_int o0_10
  obtain ⟨bl0_10, bh0_10⟩ := Go.bounds_i64 w0_10
  obtain ⟨a0_11, rfl, w0_11⟩ := kd_int o0_11
  obtain ⟨bl0_11, bh0_11⟩ := Go.bounds_i64 w0_11
  have k1 := h1
  have lt1 : ∀ x ∈ p1, x.block < W.heap.size := by obtain ⟨m, hm⟩ := k1; exact DataW.trod_lt m _ _ _ hm
  obtain ⟨m1, f1⟩ := h1
  obtain ⟨y1, rfl⟩ := okWide_int Try.underlying3 (hval 1 3 v1 rfl rfl)
  obtain ⟨_, _, e1, o1, _⟩ := scal_cons (flat_ok 1 3 [.int .i64] (by kernel_rfl) _ _ _ f1)
  simp only [Value.cells, List.cons.injEq] at e1
  obtain ⟨rfl, rfl⟩ := e1
  obtain ⟨a1, ea1, w1⟩ := kd_int o1
  obtain ⟨bl1, bh1⟩ := Go.bounds_i64 w1
  cases ea1
  have k2 := h2
  have lt2 : ∀ x ∈ p2, x.block < W.heap.size := by obtain ⟨m, hm⟩ := k2; exact DataW.trod_lt m _ _ _ hm
  obtain ⟨m2, f2⟩ := h2
  obtain ⟨y2, rfl⟩ := okWide_int Try.underlying39 (hval 2 39 v2 rfl rfl)
  obtain ⟨_, _, e2, o2, _⟩ := scal_cons (flat_ok 1 39 [.int .u64] (by kernel_rfl) _ _ _ f2)
  simp only [Value.cells, List.cons.injEq] at e2
  obtain ⟨rfl, rfl⟩ := e2
  obtain ⟨a2, ea2, w2⟩ := kd_int o2
  obtain ⟨bl2, bh2⟩ := Go.bounds_u64 w2
  cases ea2
  have k3 := h3
  have lt3 : ∀ x ∈ p3, x.block < W.heap.size := by obtain ⟨m, hm⟩ := k3; exact DataW.trod_lt m _ _ _ hm
  obtain ⟨m3, f3⟩ := h3
  obtain ⟨sa3, sl3, sc3, rfl⟩ := okWide_slice Try.underlying47 (hval 3 47 v3 rfl rfl)
  obtain ⟨_, _, e3, o3, _⟩ := scal_cons (flat_ok 1 47 [.ints .u8] (by kernel_rfl) _ _ _ f3)
  simp only [Value.cells, List.cons.injEq] at e3
  obtain ⟨rfl, rfl⟩ := e3
  obtain ⟨s3, l3, c3, z3, ev3, r3⟩ := kd_ints o3
  simp only [Value.slice.injEq] at ev3
  obtain ⟨rfl, rfl, rfl⟩ := ev3
  have k4 := h4
  have lt4 : ∀ x ∈ p4, x.block < W.heap.size := by obtain ⟨m, hm⟩ := k4; exact DataW.trod_lt m _ _ _ hm
  obtain ⟨m4, f4⟩ := h4
  obtain ⟨sa4, sl4, sc4, rfl⟩ := okWide_slice Try.underlying25 (hval 4 25 v4 rfl rfl)
  obtain ⟨n4, r4⟩ := isRows_of (flat_slice (ks := [.int .i64, .int .u64]) Try.underlying25 (n := 4) (by kernel_rfl) (by kernel_rfl) f4)
  clear hA0 hval0 hval hA
  have call : Calls Try.prog 4 #[.agg #[.int .i64 a0_0, .int .i64 a0_1, .int .i64 a0_2, .int .i64 a0_3, .int .i64 a0_4, .int .i64 a0_5, .int .i64 a0_6, .int .i64 a0_7, .int .i64 a0_8, .int .i64 a0_9, .int .i64 a0_10, .int .i64 a0_11], .int .i64 y1, .int .u64 y2, .slice sa3 sl3 sc3, .slice sa4 sl4 sc4] W fun e w' => e = .returned (.bool true) ∧ Below W.heap.size W w' := by apply walk_HeapSteps <;> first | assumption | omega
  refine call.mono fun e W' ⟨he, bel⟩ => ?_
  subst he
  exact ⟨_, rfl, _, _, _, [], _, [], hW', trodAll_mk1 (shut_bool Try.underlying4 _), (trodAll_cons_mk (Below.trod laidOut (by kernel_rfl) (of_decide_eq_true (by kernel_rfl)) k0 bel lt0) (trodAll_cons_mk (Below.trod laidOut (by kernel_rfl) (of_decide_eq_true (by kernel_rfl)) k1 bel lt1) (trodAll_cons_mk (Below.trod laidOut (by kernel_rfl) (of_decide_eq_true (by kernel_rfl)) k2 bel lt2) (trodAll_cons_mk (Below.trod laidOut (by kernel_rfl) (of_decide_eq_true (by kernel_rfl)) k3 bel lt3) (trodAll_cons_mk (Below.trod laidOut (by kernel_rfl) (of_decide_eq_true (by kernel_rfl)) k4 bel lt4) trodAll_mk0))))), rfl, bel.frame _, fun h => by cases h⟩

theorem over : Rows.heapStepsRow.holds Try.pinned (OpenSpec.ofChange Rows.heapStepsSpec) :=
  OpenClaim.holds_of_wide 4 Try.f4 rfl rfl rfl rfl rfl rfl rfl ⟨rfl, rfl, rfl, rfl, rfl⟩ rfl rfl rfl rfl rfl (by kernel_rfl) Try.func4 (by kernel_rfl)
    (of_decide_eq_true (by kernel_rfl)) (by unfold Func.isWrapper; first | (rw [if_pos (by decide +kernel)]; kernel_rfl) | (rw [if_neg (by decide +kernel)]; exact ⟨rfl, rfl⟩))
    (fun os started H enc _ => lifted os started H enc)

theorem proved : Rows.HeapStepsSaid := over
#print axioms proved
end Go.Proofs.Ytmiaghbakdapbaa.heapSteps
