/- The row of dustman/dustmanlaw08.DequeOnce: for every input the law returns true; each argument reads behind the call as it read before. No condition. -/
import Derived.Test.YtlmmaijbppdckaaLaw8e
import Derived.Test.YtlmmaijbppdckaaOpen
import Derived.WalkKit
import Derived.ProofKit
import Derived.OpenShut
import Derived.ChangeOld
import Derived.Below
namespace Go.Proofs.Ytlmmaijbppdckaa.dequeOnce
open Go.ChangeShapes Go.WideShapes Go.ChangeAt Go.RowKit Go.Proofs.Ytlmmaijbppdckaa
set_option linter.unusedVariables false

theorem own : ownKnob Try.prog.godebug = none := by kernel_rfl
theorem laidOut : laidOutB Try.prog = true := by kernel_rfl

set_option maxRecDepth 100000 in
theorem lifted (os : Os) (started : os.Started) (H : Type) (enc : TypeId × Value → H) :
    ReturnsInHanded {} Try.checked os 4 .any (Rows.dequeOnceSpec.pre6 enc Try.prog Try.f4 Rows.dequeOnceRow.domain false) (Rows.dequeOnceSpec.post enc Try.prog Try.f4 false true false false) := by
  refine returnsInHanded_of_change (C := Try.checked) own started (by kernel_rfl) Try.func4
    (ChangeSpec.witness6 (enc := enc) (C := Try.checked) false ⟨#[], #[.int .u8 0, .slice none 0 0, .slice none 0 0], []⟩ 8 (by kernel_rfl) (by kernel_rfl) (by kernel_rfl) (by kernel_rfl)) ?_
  intro W base args ds gs before hval0 hW hcnd _
  have hval : ∀ (j : Nat) t v, Try.f4.params[j]? = some t → args[j]? = some v → Value.okWide Try.prog W .any base t v := hval0
  have hW' := hW
  obtain ⟨p, q, hA0, hV, rfl, hfz, hnd⟩ := hW
  have hA : DataW.TrodAll enc Try.prog W 0 (fun _ => true) true Try.f4.params.toList args.toList ds p := hA0
  rw [Try.params4] at hA hval
  obtain ⟨v0, vs0, d0, ds0, p0, qq0, hargs, rfl, rfl, h0, rr0⟩ := trodAll_cons hA
  obtain ⟨v1, vs1, d1, ds1, p1, qq1, rfl, rfl, rfl, h1, rr1⟩ := trodAll_cons rr0
  obtain ⟨v2, vs2, d2, ds2, p2, qq2, rfl, rfl, rfl, h2, rr2⟩ := trodAll_cons rr1
  obtain ⟨rfl, rfl, rfl⟩ := trodAll_nil rr2
  obtain rfl : args = #[v0, v1, v2] := by cases args; simp_all
  obtain ⟨rfl, rfl⟩ := trodVars_none hV
  have k0 := h0
  have lt0 : ∀ x ∈ p0, x.block < W.heap.size := by obtain ⟨m, hm⟩ := k0; exact DataW.trod_lt m _ _ _ hm
  obtain ⟨m0, f0⟩ := h0
  obtain ⟨y0, rfl⟩ := okWide_int Try.underlying5 (hval 0 5 v0 rfl rfl)
  obtain ⟨_, _, e0, o0, _⟩ := scal_cons (flat_ok 1 5 [.int .u8] (by kernel_rfl) _ _ _ f0)
  simp only [Value.cells, List.cons.injEq] at e0
  obtain ⟨rfl, rfl⟩ := e0
  obtain ⟨a0, ea0, w0⟩ := kd_int o0
  obtain ⟨bl0, bh0⟩ := Go.bounds_u8 w0
  cases ea0
  have k1 := h1
  have lt1 : ∀ x ∈ p1, x.block < W.heap.size := by obtain ⟨m, hm⟩ := k1; exact DataW.trod_lt m _ _ _ hm
  obtain ⟨m1, f1⟩ := h1
  obtain ⟨sa1, sl1, sc1, rfl⟩ := okWide_slice Try.underlying36 (hval 1 36 v1 rfl rfl)
  obtain ⟨n1, r1⟩ := isRows_of (flat_slice (ks := [.bool]) Try.underlying36 (n := 4) (by kernel_rfl) (by kernel_rfl) f1)
  have k2 := h2
  have lt2 : ∀ x ∈ p2, x.block < W.heap.size := by obtain ⟨m, hm⟩ := k2; exact DataW.trod_lt m _ _ _ hm
  obtain ⟨m2, f2⟩ := h2
  obtain ⟨sa2, sl2, sc2, rfl⟩ := okWide_slice Try.underlying22 (hval 2 22 v2 rfl rfl)
  obtain ⟨_, _, e2, o2, _⟩ := scal_cons (flat_ok 1 22 [.ints .u8] (by kernel_rfl) _ _ _ f2)
  simp only [Value.cells, List.cons.injEq] at e2
  obtain ⟨rfl, rfl⟩ := e2
  obtain ⟨s2, l2, c2, z2, ev2, r2⟩ := kd_ints o2
  simp only [Value.slice.injEq] at ev2
  obtain ⟨rfl, rfl, rfl⟩ := ev2
  clear hA0 hval0 hval hA
  have call : Calls Try.prog 4 #[.int .u8 y0, .slice sa1 sl1 sc1, .slice sa2 sl2 sc2] W fun e w' => e = .returned (.bool true) ∧ Below W.heap.size W w' := by apply walk_DequeOnce <;> first | assumption | omega
  refine call.mono fun e W' ⟨he, bel⟩ => ?_
  subst he
  exact ⟨_, rfl, _, _, _, [], _, [], hW', trodAll_mk1 (shut_bool Try.underlying4 _), (trodAll_cons_mk (Below.trod laidOut (by kernel_rfl) (of_decide_eq_true (by kernel_rfl)) k0 bel lt0) (trodAll_cons_mk (Below.trod laidOut (by kernel_rfl) (of_decide_eq_true (by kernel_rfl)) k1 bel lt1) (trodAll_cons_mk (Below.trod laidOut (by kernel_rfl) (of_decide_eq_true (by kernel_rfl)) k2 bel lt2) trodAll_mk0))), rfl, bel.frame _, fun h => by cases h⟩

theorem over : Rows.dequeOnceRow.holds Try.pinned (OpenSpec.ofChange Rows.dequeOnceSpec) :=
  OpenClaim.holds_of_wide 4 Try.f4 rfl rfl rfl rfl rfl rfl rfl ⟨rfl, rfl, rfl, rfl, rfl⟩ rfl rfl rfl rfl rfl (by kernel_rfl) Try.func4 (by kernel_rfl)
    (of_decide_eq_true (by kernel_rfl)) (by unfold Func.isWrapper; first | (rw [if_pos (by decide +kernel)]; kernel_rfl) | (rw [if_neg (by decide +kernel)]; exact ⟨rfl, rfl⟩))
    (fun os started H enc _ => lifted os started H enc)

theorem proved : Rows.DequeOnceSaid := over
#print axioms proved
end Go.Proofs.Ytlmmaijbppdckaa.dequeOnce
