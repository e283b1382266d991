/- The step of a heap machine that is finished: it clears its event. -/
import Derived.Test.YtmiaghbakdapbaaHp19c
set_option linter.unusedVariables false
set_option linter.unusedSimpArgs false
namespace Go.Proofs.Ytmiaghbakdapbaa
open Go.ChangeShapes Go.WideShapes Go.ChangeAt Go.RowKit
set_option maxRecDepth 100000 in
set_option maxHeartbeats 400000 in
theorem hpZ0_h {w0 w : World} {cs : List (Chunk w0.heap.size)} (H : Has w0 w cs) (j : Nat) {sb xb mb : Nat} (s k mk hh lk v : Int) (tk : Bool) (tr ii nd e ek ea eb : Int) (hj : cs[j]? = some (hpC _ xb mb ⟨s, k, mk, hh, lk, v, tk, tr, ii, nd, e, ek, ea, eb, 0⟩)) :
    Calls Try.prog 17 #[.pointer (some ⟨xb, 0, none⟩), .pointer (some ⟨sb, 0, none⟩)] w fun r w' => r = .returned (.bool true) ∧
      Has w0 w' (cs.set j (hpC _ xb mb ⟨s, k, mk, hh, lk, v, tk, tr, ii, nd, e, 0, 0, 0, 0⟩)) := by
  obtain ⟨c0, c1, c2, c3, c4, c5, c6, c7, c8, c9, c10, c11, c12, c13, c14, c15, c16, c17, fc⟩ := hpRow (H.get j hj)
  simp only [hpNext] at c17
  have f0 := fun (w : World) f b c => run_eql_func w (Try.underlying97) f b c
  have f1 := fun (w : World) => run_eql_nil w (Try.underlying97)
  have q1 := H.blkSet j (xs := hpCells xb mb ⟨s, k, mk, hh, lk, v, tk, tr, ii, nd, e, ek, ea, eb, 0⟩ .nilFunc) (T := 99) hj 12 (.int .i64 0)
  have G1 : Has w0 _ (cs.set j (hpB _ xb mb ⟨s, k, mk, hh, lk, v, tk, tr, ii, nd, e, 0, ea, eb, 0⟩ .nilFunc)) := q1
  have q2 := G1.blkSet j (xs := hpCells xb mb ⟨s, k, mk, hh, lk, v, tk, tr, ii, nd, e, 0, ea, eb, 0⟩ .nilFunc) (T := 99) (lset_same19 hj _) 13 (.int .i64 0)
  rw [List.set_set] at q2
  have G2 : Has w0 _ (cs.set j (hpB _ xb mb ⟨s, k, mk, hh, lk, v, tk, tr, ii, nd, e, 0, ea, eb, 0⟩ .nilFunc)) := q2
  have q3 := G2.blkSet j (xs := hpCells xb mb ⟨s, k, mk, hh, lk, v, tk, tr, ii, nd, e, 0, ea, eb, 0⟩ .nilFunc) (T := 99) (lset_same19 hj _) 14 (.int .i64 0)
  rw [List.set_set] at q3
  have G3 : Has w0 _ (cs.set j (hpB _ xb mb ⟨s, k, mk, hh, lk, v, tk, tr, ii, nd, e, 0, 0, eb, 0⟩ .nilFunc)) := q3
  have q4 := G3.blkSet j (xs := hpCells xb mb ⟨s, k, mk, hh, lk, v, tk, tr, ii, nd, e, 0, 0, eb, 0⟩ .nilFunc) (T := 99) (lset_same19 hj _) 15 (.int .i64 0)
  rw [List.set_set] at q4
  have G4 : Has w0 _ (cs.set j (hpB _ xb mb ⟨s, k, mk, hh, lk, v, tk, tr, ii, nd, e, 0, 0, 0, 0⟩ .nilFunc)) := q4
  have q5 := G4.blkSet j (xs := hpCells xb mb ⟨s, k, mk, hh, lk, v, tk, tr, ii, nd, e, 0, 0, 0, 0⟩ .nilFunc) (T := 99) (lset_same19 hj _) 16 (.int .i64 0)
  rw [List.set_set] at q5
  have G5 : Has w0 _ (cs.set j (hpC _ xb mb ⟨s, k, mk, hh, lk, v, tk, tr, ii, nd, e, 0, 0, 0, 0⟩)) := q5
  clear q1 q2 q3 q4 q5 G1 G2 G3 G4
  have Z : ek = 0 → ea = 0 → eb = 0 → Has w0 w (cs.set j (hpC _ xb mb ⟨s, k, mk, hh, lk, v, tk, tr, ii, nd, e, 0, 0, 0, 0⟩)) := by
    rintro rfl rfl rfl; rw [lset_is19 hj]; exact H
  go_enter Try.func17, Try.ntmps17
  go_wp2_with fail
  all_goals go_ret
  all_goals first | (refine ⟨rfl, ?_⟩; with_reducible exact G5) | (refine ⟨rfl, ?_⟩; exact Z (by assumption) (by assumption) (by assumption))
end Go.Proofs.Ytmiaghbakdapbaa
