/- A machine of no map: it is finished. -/
import Derived.Test.YtmiaghbakdapbaaHp19g
set_option linter.unusedVariables false
set_option linter.unusedSimpArgs false
namespace Go.Proofs.Ytmiaghbakdapbaa
open Go.ChangeShapes Go.WideShapes Go.ChangeAt Go.RowKit

def hpD (n0 xb : Nat) (s k mk : Int) : Chunk n0 := blkC n0 xb #[.pointer none, .int .i64 s, .int .i64 k, .int .u64 mk, .int .u64 0, .int .u32 0, .int .i64 0, .bool false, .int .i64 0, .int .i64 0, .int .i64 0, .int .i64 21, .int .i64 0, .int .i64 0, .int .i64 0, .int .i64 0, .int .i64 0, .nilFunc] 99
theorem run_eqIn_nil19 {P : Program} (w : World) {t e : TypeId} (h : P.underlying t = some (.pointer e)) (d : Nat) : (Op.equalIn (d + 1) t (.pointer none) (.pointer none)).run P w = .ok true w := by
  simp [Op.equalIn, run_underlying h]
set_option maxRecDepth 100000 in
theorem hpNewNil {w0 w : World} {cs : List (Chunk w0.heap.size)} (H : Has w0 w cs) (s mk : Int) :
    Calls Try.prog 16 #[.pointer none, .int .i64 s, .int .u64 mk] w fun e w' => ∃ xb, e = .returned (.pointer (some ⟨xb, 0, none⟩)) ∧ Has w0 w' (cs ++ [hpD _ xb s (sOf s) mk]) := by
  have f2 : ∀ (w : World), (Op.equalIn 9999 28 (.pointer none) (.pointer none)).run Try.prog w = .ok true w := fun w => run_eqIn_nil19 w Try.underlying28 9998
  go_enter Try.func16, Try.ntmps16
  go_wp2_with fail
  refine (Of_c s _).mono ?_
  rintro e w1 ⟨rfl, dn, rfl⟩
  go_wp2_with fail
  go_ret
  exact ⟨_, rfl, (H.drewN dn).blkNew _ _⟩
theorem hpStepD {w0 w : World} {cs : List (Chunk w0.heap.size)} (H : Has w0 w cs) (j : Nat) {xb : Nat} (s k mk : Int) (hj : cs[j]? = some (hpD _ xb s k mk)) (sv : Value) :
    Calls Try.prog 17 #[.pointer (some ⟨xb, 0, none⟩), sv] w fun e w' => e = .returned (.bool true) ∧ ∃ n, w' = w.drewN n := by
  have HJ := H.get j hj
  have c12 := blk_at HJ 12 (u := .int .i64 0) rfl
  have c13 := blk_at HJ 13 (u := .int .i64 0) rfl
  have c14 := blk_at HJ 14 (u := .int .i64 0) rfl
  have c15 := blk_at HJ 15 (u := .int .i64 0) rfl
  have c16 := blk_at HJ 16 (u := .int .i64 0) rfl
  have c17 := blk_at HJ 17 (u := .nilFunc) rfl
  have f1 := fun (w : World) => run_eql_nil w (Try.underlying97)
  clear HJ hj
  go_enter Try.func17, Try.ntmps17
  go_wp2_with fail
  go_ret
  exact ⟨rfl, 0, rfl⟩
end Go.Proofs.Ytmiaghbakdapbaa
