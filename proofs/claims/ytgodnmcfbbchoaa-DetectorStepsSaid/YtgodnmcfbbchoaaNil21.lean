/- A detector that is none, and one of no map. -/
import Derived.Test.YtgodnmcfbbchoaaDt21
set_option linter.unusedVariables false
set_option linter.unusedSimpArgs false
namespace Go.Proofs.Ytgodnmcfbbchoaa
open Go.ChangeShapes Go.WideShapes Go.ChangeAt Go.RowKit

theorem dtStepNil (sv : Value) (dv : Int) (w : World) : Calls Try.prog 16 #[.pointer none, sv, .int .i64 dv] w fun e w' => e = .returned (.tuple #[]) ∧ ∃ n, w' = w.drewN n := by
  go_enter Try.func16, Try.ntmps16
  go_wp2_with fail
  refine bodyPost_ret (v := .tuple #[]) (by simp [results, Try.results16]) rfl ?_
  exact ⟨rfl, 0, rfl⟩

theorem dtDoingNil (w : World) : Calls Try.prog 17 #[.pointer none] w fun e w' => e = .returned (.int .i64 0) ∧ ∃ n, w' = w.drewN n := by
  go_enter Try.func17, Try.ntmps17
  go_wp2_with fail
  go_ret
  exact ⟨rfl, 0, rfl⟩
theorem dtCycleNil (w : World) : Calls Try.prog 21 #[.pointer none] w fun e w' => e = .returned (.int .u64 0) ∧ ∃ n, w' = w.drewN n := by
  go_enter Try.func21, Try.ntmps21
  go_wp2_with fail
  go_ret
  exact ⟨rfl, 0, rfl⟩

theorem dtEventNil (w : World) : Calls Try.prog 25 #[.pointer none] w fun e w' => e = .returned (.agg #[.int .i64 0, .int .i64 0, .int .i64 0, .int .i64 0, .int .i64 0]) ∧ Below w.heap.size w w' := by
  go_enter Try.func25, Try.ntmps25
  go_wp2_with fail
  refine bodyPost_ret (v := .agg #[.int .i64 0, .int .i64 0, .int .i64 0, .int .i64 0, .int .i64 0]) (by simp [results, Try.results25, go_sem]) rfl ⟨rfl, ?_⟩
  repeat (first | with_reducible exact Below.refl _ _ | (with_reducible refine Below.setCell (B := w.heap.size) ?_ (by simp) _) | (with_reducible refine Below.alloc (B := w.heap.size) ?_ (by simp) _) | with_reducible refine below_drew5 ?_)

/-- A detector of no map. -/
def dtD (n0 xb : Nat) : Chunk n0 := blkC n0 xb #[.pointer none, .int .i64 0, .int .u64 0, .int .i64 0, .int .i64 0, .int .i64 0, .int .i64 0, .int .i64 0, .int .i64 0] 84
theorem dtNewNil {w0 w : World} {cs : List (Chunk w0.heap.size)} (H : Has w0 w cs) :
    Calls Try.prog 13 #[.pointer none] w fun e w' => ∃ xb, e = .returned (.pointer (some ⟨xb, 0, none⟩)) ∧ Has w0 w' (cs ++ [dtD _ xb]) := by
  go_enter Try.func13, Try.ntmps13
  go_wp2_with fail
  go_ret
  exact ⟨_, rfl, H.blkNew _ _⟩
theorem dtStepD {w0 w : World} {cs : List (Chunk w0.heap.size)} (H : Has w0 w cs) (j : Nat) {xb : Nat} (dv : Int) (hj : cs[j]? = some (dtD _ xb)) (sv : Value) :
    Calls Try.prog 16 #[.pointer (some ⟨xb, 0, none⟩), sv, .int .i64 dv] w fun e w' => e = .returned (.tuple #[]) ∧ ∃ n, w' = w.drewN n := by
  obtain ⟨x0, x1, x2, x3, x4, x5, x6, x7, x8, fx⟩ := row9 (H.get j hj)
  go_enter Try.func16, Try.ntmps16
  go_wp2_with fail
  refine bodyPost_ret (v := .tuple #[]) (by simp [results, Try.results16]) rfl ?_
  exact ⟨rfl, 0, rfl⟩

theorem dtDoingD {w0 w : World} {cs : List (Chunk w0.heap.size)} (H : Has w0 w cs) (j : Nat) {xb : Nat} (hj : cs[j]? = some (dtD _ xb)) :
    Calls Try.prog 17 #[.pointer (some ⟨xb, 0, none⟩)] w fun e w' => e = .returned (.int .i64 0) ∧ ∃ n, w' = w.drewN n := by
  obtain ⟨x0, x1, x2, x3, x4, x5, x6, x7, x8, fx⟩ := row9 (H.get j hj)
  go_enter Try.func17, Try.ntmps17
  go_wp2_with fail
  go_ret
  exact ⟨rfl, 0, rfl⟩
theorem dtCycleD {w0 w : World} {cs : List (Chunk w0.heap.size)} (H : Has w0 w cs) (j : Nat) {xb : Nat} (hj : cs[j]? = some (dtD _ xb)) :
    Calls Try.prog 21 #[.pointer (some ⟨xb, 0, none⟩)] w fun e w' => e = .returned (.int .u64 0) ∧ ∃ n, w' = w.drewN n := by
  obtain ⟨x0, x1, x2, x3, x4, x5, x6, x7, x8, fx⟩ := row9 (H.get j hj)
  go_enter Try.func21, Try.ntmps21
  go_wp2_with fail
  go_ret
  exact ⟨rfl, 0, rfl⟩

end Go.Proofs.Ytgodnmcfbbchoaa
