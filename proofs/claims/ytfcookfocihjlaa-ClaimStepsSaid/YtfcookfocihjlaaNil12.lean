/- A machine that is none, and one of no map: both are finished. -/
import Derived.Test.YtfcookfocihjlaaCl12
set_option linter.unusedVariables false
set_option linter.unusedSimpArgs false
namespace Go.Proofs.Ytfcookfocihjlaa
open Go.ChangeShapes Go.WideShapes Go.ChangeAt Go.RowKit

theorem clStepNil (sv : Value) (w : World) : Calls Try.prog 13 #[.pointer none, sv] w fun e w' => e = .returned (.bool true) ∧ ∃ n, w' = w.drewN n := by
  go_enter Try.func13, Try.ntmps13
  go_wp2_with fail
  go_ret
  exact ⟨rfl, 0, rfl⟩

theorem clWonNil (w : World) : Calls Try.prog 14 #[.pointer none] w fun e w' => e = .returned (.bool false) ∧ ∃ n, w' = w.drewN n := by
  go_enter Try.func14, Try.ntmps14
  go_wp2_with fail
  go_ret
  exact ⟨rfl, 0, rfl⟩

/-- A machine of no map. -/
def clD (n0 xb : Nat) (v cy : Int) : Chunk n0 := blkC n0 xb #[.pointer none, .int .i64 v, .int .u64 cy, .int .u64 0, .bool false, .nilFunc] 84

theorem run_eqIn_nil {P : Program} (w : World) {t e : TypeId} (h : P.underlying t = some (.pointer e)) (d : Nat) : (Op.equalIn (d + 1) t (.pointer none) (.pointer none)).run P w = .ok true w := by
  simp [Op.equalIn, run_underlying h]

set_option maxRecDepth 100000 in
theorem clNewNil {w0 w : World} {cs : List (Chunk w0.heap.size)} (H : Has w0 w cs) (v cy : Int) :
    Calls Try.prog 12 #[.pointer none, .int .i64 v, .int .u64 cy] w fun e w' => ∃ xb, e = .returned (.pointer (some ⟨xb, 0, none⟩)) ∧ Has w0 w' (cs ++ [clD _ xb v cy]) := by
  have f2 : ∀ (w : World), (Op.equalIn 9999 24 (.pointer none) (.pointer none)).run Try.prog w = .ok true w := fun w => run_eqIn_nil w Try.underlying24 9998
  go_enter Try.func12, Try.ntmps12
  go_wp2_with fail
  go_ret
  exact ⟨_, rfl, H.blkNew _ _⟩

theorem clStepD {w0 w : World} {cs : List (Chunk w0.heap.size)} (H : Has w0 w cs) (j : Nat) {xb : Nat} (v cy : Int) (hj : cs[j]? = some (clD _ xb v cy)) (sv : Value) :
    Calls Try.prog 13 #[.pointer (some ⟨xb, 0, none⟩), sv] w fun e w' => e = .returned (.bool true) ∧ ∃ n, w' = w.drewN n := by
  obtain ⟨x0, x1, x2, x3, x4, x5, fx⟩ := row6 (H.get j hj)
  have f1 := fun (w : World) => run_eql_nil w (Try.underlying82)
  go_enter Try.func13, Try.ntmps13
  go_wp2_with fail
  go_ret
  exact ⟨rfl, 0, rfl⟩

theorem clWonD {w0 w : World} {cs : List (Chunk w0.heap.size)} (H : Has w0 w cs) (j : Nat) {xb : Nat} (v cy : Int) (hj : cs[j]? = some (clD _ xb v cy)) :
    Calls Try.prog 14 #[.pointer (some ⟨xb, 0, none⟩)] w fun e w' => e = .returned (.bool false) ∧ ∃ n, w' = w.drewN n := by
  obtain ⟨x0, x1, x2, x3, x4, x5, fx⟩ := row6 (H.get j hj)
  go_enter Try.func14, Try.ntmps14
  go_wp2_with fail
  go_ret
  exact ⟨rfl, 0, rfl⟩

end Go.Proofs.Ytfcookfocihjlaa
