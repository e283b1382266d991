/- What holds from step to step in DetectorSteps, in plain Lean. -/
import Derived.Test.YtgodnmcfbbchoaaDt21p
set_option linter.unusedVariables false
set_option linter.unusedSimpArgs false
namespace Go.Proofs.Ytgodnmcfbbchoaa
open Go.ChangeShapes Go.WideShapes Go.ChangeAt Go.RowKit

structure SInv (c : Cfg) (k : Nat) (l : List Int) (x : Dt) : Prop where
  len : l.length < 1000000000000
  w1 : 0 ≤ mld l 1
  ok : DtOk c x
  cy : x.cy ≤ k
theorem sinv_put {c : Cfg} {k : Nat} {l : List Int} {x : Dt} (h : SInv c k l x) (a v : Int) (hv : 0 ≤ v) : SInv c k (mput l a v) x := by
  refine ⟨by rw [mput_length]; exact h.len, ?_, h.ok, h.cy⟩
  by_cases e : a = 1
  · subst e
    by_cases hl : (0 : Int) ≤ 1 ∧ (1 : Int) < (l.length : Int)
    · rw [mld_mput_same hl]; exact hv
    · rw [mld_out (by rw [mput_length]; exact hl)]; exact Int.le_refl _
  · rw [mld_mput_ne _ _ _ _ e]; exact h.w1

theorem sinv_step {c : Cfg} (hc : CfgOk c) {k : Nat} {l : List Int} {x : Dt} (h : SInv c k l x) (d : Int) : SInv c (k + 1) (dtStep c l x d).1 (dtStep c l x d).2 := by
  obtain ⟨m1, m2⟩ := dt_mem c l x d
  have := (dt_cy_le c l x d).2
  have hk := h.cy
  exact ⟨by rw [m1]; exact h.len, by rw [m2 1 (by decide) (by decide) (by decide)]; exact h.w1, dt_ok hc l x d h.ok, by omega⟩

end Go.Proofs.Ytgodnmcfbbchoaa
