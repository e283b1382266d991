/- The row of dustman/dustmanlaw08.DequeSix: for every input the law returns true; each argument reads behind the call as it read before. No condition. -/
import Derived.Test.YtlmmaijbppdckaaLaw8b
import Derived.Test.YtlmmaijbppdckaaOpen
import Derived.WalkKit
import Derived.ProofKit
import Derived.OpenShut
import Derived.ChangeOld
import Derived.Below
namespace Go.Proofs.Ytlmmaijbppdckaa.dequeSix
open Go.ChangeShapes Go.WideShapes Go.ChangeAt Go.RowKit Go.Proofs.Ytlmmaijbppdckaa
set_option linter.unusedVariables false

theorem own : ownKnob Try.prog.godebug = none := by kernel_rfl
theorem laidOut : laidOutB Try.prog = true := by kernel_rfl

set_option maxRecDepth 100000 in
theorem lifted (os : Os) (started : os.Started) (H : Type) (enc : TypeId × Value → H) :
    ReturnsInHanded {} Try.checked os 7 .any (Rows.dequeSixSpec.pre6 enc Try.prog Try.f7 Rows.dequeSixRow.domain false) (Rows.dequeSixSpec.post enc Try.prog Try.f7 false true false false) := by
  refine returnsInHanded_of_change (C := Try.checked) own started (by kernel_rfl) Try.func7
    (ChangeSpec.witness6 (enc := enc) (C := Try.checked) false ⟨#[], #[.slice none 0 0, .agg #[.int .i64 0, .int .i64 0, .int .i64 0, .int .i64 0], .int .u8 0, .int .u64 0, .slice none 0 0], []⟩ 8 (by kernel_rfl) (by kernel_rfl) (by kernel_rfl) (by kernel_rfl)) ?_
  intro W base args ds gs before hval0 hW hcnd _
  have hval : ∀ (j : Nat) t v, Try.f7.params[j]? = some t → args[j]? = some v → Value.okWide Try.prog W .any base t v := hval0
  have hW' := hW
  obtain ⟨p, q, hA0, hV, rfl, hfz, hnd⟩ := hW
  have hA : DataW.TrodAll enc Try.prog W 0 (fun _ => true) true Try.f7.params.toList args.toList ds p := hA0
  rw [Try.params7] at hA hval
  obtain ⟨v0, vs0, d0, ds0, p0, qq0, hargs, rfl, rfl, h0, rr0⟩ := trodAll_cons hA
  obtain ⟨v1, vs1, d1, ds1, p1, qq1, rfl, rfl, rfl, h1, rr1⟩ := trodAll_cons rr0
  obtain ⟨v2, vs2, d2, ds2, p2, qq2, rfl, rfl, rfl, h2, rr2⟩ := trodAll_cons rr1
  obtain ⟨v3, vs3, d3, ds3, p3, qq3, rfl, rfl, rfl, h3, rr3⟩ := trodAll_cons rr2
  obtain ⟨v4, vs4, d4, ds4, p4, qq4, rfl, rfl, rfl, h4, rr4⟩ := trodAll_cons rr3
  obtain ⟨rfl, rfl, rfl⟩ := trodAll_nil rr4
  obtain rfl : args = #[v0, v1, v2, v3, v4] := by cases args; simp_all
  obtain ⟨rfl, rfl⟩ := trodVars_none hV
  have k0 := h0
  have lt0 : ∀ x ∈ p0, x.block < W.heap.size := by obtain ⟨m, hm⟩ := k0; exact DataW.trod_lt m _ _ _ hm
  obtain ⟨m0, f0⟩ := h0
  obtain ⟨sa0, sl0, sc0, rfl⟩ := okWide_slice Try.underlying28 (hval 0 28 v0 rfl rfl)
  obtain ⟨_, _, e0, o0, _⟩ := scal_cons (flat_ok 1 28 [.ints .u64] (by kernel_rfl) _ _ _ f0)
  simp only [Value.cells, List.cons.injEq] at e0
  obtain ⟨rfl, rfl⟩ := e0
  obtain ⟨s0, l0, c0, z0, ev0, r0⟩ := kd_ints o0
  simp only [Value.slice.injEq] at ev0
  obtain ⟨rfl, rfl, rfl⟩ := ev0
  have k1 := h1
  have lt1 : ∀ x ∈ p1, x.block < W.heap.size := by obtain ⟨m, hm⟩ := k1; exact DataW.trod_lt m _ _ _ hm
  obtain ⟨m1, f1⟩ := h1
  obtain ⟨cs1, rfl, _⟩ := okWide_struct Try.underlying25 (hval 1 25 v1 rfl rfl)
  have q1 := flat_ok 4 25 [.int .i64, .int .i64, .int .i64, .int .i64] (by kernel_rfl) _ _ _ f1
  obtain ⟨u1_0, _, e1_0, o1_0, q1_0⟩ := scal_cons q1
  obtain ⟨u1_1, _, e1_1, o1_1, q1_1⟩ := scal_cons q1_0
  subst e1_1
  obtain ⟨u1_2, _, e1_2, o1_2, q1_2⟩ := scal_cons q1_1
  subst e1_2
  obtain ⟨u1_3, _, e1_3, o1_3, q1_3⟩ := scal_cons q1_2
  subst e1_3
  have n1 := scal_nil q1_3
  subst n1
  obtain rfl : cs1 = #[u1_0, u1_1, u1_2, u1_3] := by
    have := e1_0
    simp only [Value.cells] at this
    exact Array.toList_inj.1 this
  obtain ⟨a1_0, rfl, w1_0⟩ := kd_int o1_0
  obtain ⟨bl1_0, bh1_0⟩ := Go.bounds_i64 w1_0
  obtain ⟨a1_1, rfl, w1_1⟩ := kd_int o1_1
  obtain ⟨bl1_1, bh1_1⟩ := Go.bounds_i64 w1_1
  obtain ⟨a1_2, rfl, w1_2⟩ := kd_int o1_2
  obtain ⟨bl1_2, bh1_2⟩ := Go.bounds_i64 w1_2
  obtain ⟨a1_3, rfl, w1_3⟩ := kd_int o1_3
  obtain ⟨bl1_3, bh1_3⟩ := Go.bounds_i64 w1_3
  have k2 := h2
  have lt2 : ∀ x ∈ p2, x.block < W.heap.size := by obtain ⟨m, hm⟩ := k2; exact DataW.trod_lt m _ _ _ hm
  obtain ⟨m2, f2⟩ := h2
  obtain ⟨y2, rfl⟩ := okWide_int Try.underlying5 (hval 2 5 v2 rfl rfl)
  obtain ⟨_, _, e2, o2, _⟩ := scal_cons (flat_ok 1 5 [.int .u8] (by kernel_rfl) _ _ _ f2)
  simp only [Value.cells, List.cons.injEq] at e2
  obtain ⟨rfl, rfl⟩ := e2
  obtain ⟨a2, ea2, w2⟩ := kd_int o2
  obtain ⟨bl2, bh2⟩ := Go.bounds_u8 w2
  cases ea2
  have k3 := h3
  have lt3 : ∀ x ∈ p3, x.block < W.heap.size := by obtain ⟨m, hm⟩ := k3; exact DataW.trod_lt m _ _ _ hm
  obtain ⟨m3, f3⟩ := h3
  obtain ⟨y3, rfl⟩ := okWide_int Try.underlying29 (hval 3 29 v3 rfl rfl)
  obtain ⟨_, _, e3, o3, _⟩ := scal_cons (flat_ok 1 29 [.int .u64] (by kernel_rfl) _ _ _ f3)
  simp only [Value.cells, List.cons.injEq] at e3
  obtain ⟨rfl, rfl⟩ := e3
  obtain ⟨a3, ea3, w3⟩ := kd_int o3
  obtain ⟨bl3, bh3⟩ := Go.bounds_u64 w3
  cases ea3
  have k4 := h4
  have lt4 : ∀ x ∈ p4, x.block < W.heap.size := by obtain ⟨m, hm⟩ := k4; exact DataW.trod_lt m _ _ _ hm
  obtain ⟨m4, f4⟩ := h4
  obtain ⟨sa4, sl4, sc4, rfl⟩ := okWide_slice Try.underlying44 (hval 4 44 v4 rfl rfl)
  obtain ⟨n4, r4⟩ := isRows_of (flat_slice (ks := [.int .i64, .int .u64]) Try.underlying44 (n := 4) (by kernel_rfl) (by kernel_rfl) f4)
  clear hA0 hval0 hval hA
  have call : Calls Try.prog 7 #[.slice sa0 sl0 sc0, .agg #[.int .i64 a1_0, .int .i64 a1_1, .int .i64 a1_2, .int .i64 a1_3], .int .u8 y2, .int .u64 y3, .slice sa4 sl4 sc4] W fun e w' => e = .returned (.bool true) ∧ Below W.heap.size W w' := by apply walk_DequeSix <;> first | assumption | omega
  refine call.mono fun e W' ⟨he, bel⟩ => ?_
  subst he
  exact ⟨_, rfl, _, _, _, [], _, [], hW', trodAll_mk1 (shut_bool Try.underlying4 _), (trodAll_cons_mk (Below.trod laidOut (by kernel_rfl) (of_decide_eq_true (by kernel_rfl)) k0 bel lt0) (trodAll_cons_mk (Below.trod laidOut (by kernel_rfl) (of_decide_eq_true (by kernel_rfl)) k1 bel lt1) (trodAll_cons_mk (Below.trod laidOut (by kernel_rfl) (of_decide_eq_true (by kernel_rfl)) k2 bel lt2) (trodAll_cons_mk (Below.trod laidOut (by kernel_rfl) (of_decide_eq_true (by kernel_rfl)) k3 bel lt3) (trodAll_cons_mk (Below.trod laidOut (by kernel_rfl) (of_decide_eq_true (by kernel_rfl)) k4 bel lt4) trodAll_mk0))))), rfl, bel.frame _, fun h => by cases h⟩

theorem over : Rows.dequeSixRow.holds Try.pinned (OpenSpec.ofChange Rows.dequeSixSpec) :=
  OpenClaim.holds_of_wide 7 Try.f7 rfl rfl rfl rfl rfl rfl rfl ⟨rfl, rfl, rfl, rfl, rfl⟩ rfl rfl rfl rfl rfl (by kernel_rfl) Try.func7 (by kernel_rfl)
    (of_decide_eq_true (by kernel_rfl)) (by unfold Func.isWrapper; first | (rw [if_pos (by decide +kernel)]; kernel_rfl) | (rw [if_neg (by decide +kernel)]; exact ⟨rfl, rfl⟩))
    (fun os started H enc _ => lifted os started H enc)

theorem proved : Rows.DequeSixSaid := over
#print axioms proved
end Go.Proofs.Ytlmmaijbppdckaa.dequeSix
