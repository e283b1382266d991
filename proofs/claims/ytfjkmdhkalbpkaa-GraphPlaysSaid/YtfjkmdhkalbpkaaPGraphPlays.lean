/- The row of dustman/dustmanlaw07.GraphPlays: for every input the law returns true; each argument reads behind the call as it read before. No condition. -/
import Derived.Test.YtfjkmdhkalbpkaaLaw7g
import Derived.Test.YtfjkmdhkalbpkaaOpen
import Derived.WalkKit
import Derived.ProofKit
import Derived.OpenShut
import Derived.ChangeOld
import Derived.Below
namespace Go.Proofs.Ytfjkmdhkalbpkaa.graphPlays
open Go.ChangeShapes Go.WideShapes Go.ChangeAt Go.RowKit Go.Proofs.Ytfjkmdhkalbpkaa
set_option linter.unusedVariables false

theorem own : ownKnob Try.prog.godebug = none := by kernel_rfl
theorem laidOut : laidOutB Try.prog = true := by kernel_rfl

set_option maxRecDepth 100000 in
theorem lifted (os : Os) (started : os.Started) (H : Type) (enc : TypeId × Value → H) :
    ReturnsInHanded {} Try.checked os 4 .any (Rows.graphPlaysSpec.pre6 enc Try.prog Try.f4 Rows.graphPlaysRow.domain false) (Rows.graphPlaysSpec.post enc Try.prog Try.f4 false true false false) := by
  refine returnsInHanded_of_change (C := Try.checked) own started (by kernel_rfl) Try.func4
    (ChangeSpec.witness6 (enc := enc) (C := Try.checked) false ⟨#[], #[.int .i64 0, .int .i64 0, .int .i64 0, .slice none 0 0], []⟩ 8 (by kernel_rfl) (by kernel_rfl) (by kernel_rfl) (by kernel_rfl)) ?_
  intro W base args ds gs before hval0 hW hcnd _
  have hval : ∀ (j : Nat) t v, Try.f4.params[j]? = some t → args[j]? = some v → Value.okWide Try.prog W .any base t v := hval0
  have hW' := hW
  obtain ⟨p, q, hA0, hV, rfl, hfz, hnd⟩ := hW
  have hA : DataW.TrodAll enc Try.prog W 0 (fun _ => true) true Try.f4.params.toList args.toList ds p := hA0
  rw [Try.params4] at hA hval
  obtain ⟨v0, vs0, d0, ds0, p0, qq0, hargs, rfl, rfl, h0, rr0⟩ := trodAll_cons hA
  obtain ⟨v1, vs1, d1, ds1, p1, qq1, rfl, rfl, rfl, h1, rr1⟩ := trodAll_cons rr0
  obtain ⟨v2, vs2, d2, ds2, p2, qq2, rfl, rfl, rfl, h2, rr2⟩ := trodAll_cons rr1
  obtain ⟨v3, vs3, d3, ds3, p3, qq3, rfl, rfl, rfl, h3, rr3⟩ := trodAll_cons rr2
  obtain ⟨rfl, rfl, rfl⟩ := trodAll_nil rr3
  obtain rfl : args = #[v0, v1, v2, v3] := by cases args; simp_all
  obtain ⟨rfl, rfl⟩ := trodVars_none hV
  have k0 := h0
  have lt0 : ∀ x ∈ p0, x.block < W.heap.size := by obtain ⟨m, hm⟩ := k0; exact DataW.trod_lt m _ _ _ hm
  obtain ⟨m0, f0⟩ := h0
  obtain ⟨y0, rfl⟩ := okWide_int Try.underlying3 (hval 0 3 v0 rfl rfl)
  obtain ⟨_, _, e0, o0, _⟩ := scal_cons (flat_ok 1 3 [.int .i64] (by kernel_rfl) _ _ _ f0)
  simp only [Value.cells, List.cons.injEq] at e0
  obtain ⟨rfl, rfl⟩ := e0
  obtain ⟨a0, ea0, w0⟩ := kd_int o0
  obtain ⟨bl0, bh0⟩ := Go.bounds_i64 w0
  cases ea0
  have k1 := h1
  have lt1 : ∀ x ∈ p1, x.block < W.heap.size := by obtain ⟨m, hm⟩ := k1; exact DataW.trod_lt m _ _ _ hm
  obtain ⟨m1, f1⟩ := h1
  obtain ⟨y1, rfl⟩ := okWide_int Try.underlying3 (hval 1 3 v1 rfl rfl)
  obtain ⟨_, _, e1, o1, _⟩ := scal_cons (flat_ok 1 3 [.int .i64] (by kernel_rfl) _ _ _ f1)
  simp only [Value.cells, List.cons.injEq] at e1
  obtain ⟨rfl, rfl⟩ := e1
  obtain ⟨a1, ea1, w1⟩ := kd_int o1
  obtain ⟨bl1, bh1⟩ := Go.bounds_i64 w1
  cases ea1
  have k2 := h2
  have lt2 : ∀ x ∈ p2, x.block < W.heap.size := by obtain ⟨m, hm⟩ := k2; exact DataW.trod_lt m _ _ _ hm
  obtain ⟨m2, f2⟩ := h2
  obtain ⟨y2, rfl⟩ := okWide_int Try.underlying3 (hval 2 3 v2 rfl rfl)
  obtain ⟨_, _, e2, o2, _⟩ := scal_cons (flat_ok 1 3 [.int .i64] (by kernel_rfl) _ _ _ f2)
  simp only [Value.cells, List.cons.injEq] at e2
  obtain ⟨rfl, rfl⟩ := e2
  obtain ⟨a2, ea2, w2⟩ := kd_int o2
  obtain ⟨bl2, bh2⟩ := Go.bounds_i64 w2
  cases ea2
  have k3 := h3
  have lt3 : ∀ x ∈ p3, x.block < W.heap.size := by obtain ⟨m, hm⟩ := k3; exact DataW.trod_lt m _ _ _ hm
  obtain ⟨m3, f3⟩ := h3
  obtain ⟨sa3, sl3, sc3, rfl⟩ := okWide_slice Try.underlying22 (hval 3 22 v3 rfl rfl)
  obtain ⟨n3, r3⟩ := isRows_of (flat_slice (ks := [.int .u8, .int .i64, .int .i64, .int .i64, .int .i64]) Try.underlying22 (n := 4) (by kernel_rfl) (by kernel_rfl) f3)
  clear hA0 hval0 hval hA
  have call : Calls Try.prog 4 #[.int .i64 y0, .int .i64 y1, .int .i64 y2, .slice sa3 sl3 sc3] W fun e w' => e = .returned (.bool true) ∧ Below W.heap.size W w' := by apply walk_GraphPlays <;> first | assumption | omega
  refine call.mono fun e W' ⟨he, bel⟩ => ?_
  subst he
  exact ⟨_, rfl, _, _, _, [], _, [], hW', trodAll_mk1 (shut_bool Try.underlying4 _), (trodAll_cons_mk (Below.trod laidOut (by kernel_rfl) (of_decide_eq_true (by kernel_rfl)) k0 bel lt0) (trodAll_cons_mk (Below.trod laidOut (by kernel_rfl) (of_decide_eq_true (by kernel_rfl)) k1 bel lt1) (trodAll_cons_mk (Below.trod laidOut (by kernel_rfl) (of_decide_eq_true (by kernel_rfl)) k2 bel lt2) (trodAll_cons_mk (Below.trod laidOut (by kernel_rfl) (of_decide_eq_true (by kernel_rfl)) k3 bel lt3) trodAll_mk0)))), rfl, bel.frame _, fun h => by cases h⟩

theorem over : Rows.graphPlaysRow.holds Try.pinned (OpenSpec.ofChange Rows.graphPlaysSpec) :=
  OpenClaim.holds_of_wide 4 Try.f4 rfl rfl rfl rfl rfl rfl rfl ⟨rfl, rfl, rfl, rfl, rfl⟩ rfl rfl rfl rfl rfl (by kernel_rfl) Try.func4 (by kernel_rfl)
    (of_decide_eq_true (by kernel_rfl)) (by unfold Func.isWrapper; first | (rw [if_pos (by decide +kernel)]; kernel_rfl) | (rw [if_neg (by decide +kernel)]; exact ⟨rfl, rfl⟩))
    (fun os started H enc _ => lifted os started H enc)

theorem proved : Rows.GraphPlaysSaid := over
#print axioms proved
end Go.Proofs.Ytfjkmdhkalbpkaa.graphPlays
