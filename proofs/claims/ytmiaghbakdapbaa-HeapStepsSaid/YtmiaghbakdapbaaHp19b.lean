/- The last step of a machine that makes a node (package heap): it marks the node as live. -/
import Derived.Test.YtmiaghbakdapbaaHp19
set_option linter.unusedVariables false
set_option linter.unusedSimpArgs false
set_option linter.unusedSectionVars false
namespace Go.Proofs.Ytmiaghbakdapbaa
open Go.ChangeShapes Go.WideShapes Go.ChangeAt Go.RowKit

section
variable {w0 w : World} {cs : List (Chunk w0.heap.size)} (H : Has w0 w cs) (i j q : Nat) {sb g xb mb : Nat} {l : List Int} {n : Int} {av rv : Value} {c : Cfg} (hi : cs[i]? = some (storeC _ sb g l n)) (hq : cs[q]? = some (mapC _ mb av rv c)) (hij : i ≠ j) (hqj : q ≠ j) (h : CfgOk c)
include H hi hq hij hqj h
set_option maxRecDepth 100000 in
set_option maxHeartbeats 1000000 in
theorem hpState_h (s k mk hh lk v : Int) (tk : Bool) (tr ii nd e : Int) (hj : cs[j]? = some (hpB _ xb mb ⟨s, k, mk, hh, lk, v, tk, tr, ii, nd, e, 0, 0, 0, 7⟩ (hpNext xb 7))) :
    Calls Try.prog 111 #[.pointer (some ⟨xb, 0, none⟩), .pointer (some ⟨sb, 0, none⟩)] w fun r w' => r = .returned (.tuple #[]) ∧
      Has w0 w' ((cs.set i (storeC _ sb g (mput l (c.nodeAt v 1) 1) (wrap64 (n + 1)))).set j (hpC _ xb mb ⟨s, k, mk, hh, lk, v, false, tr, ii, v, e, 8, v, s, 0⟩)) := by
  obtain ⟨c0, c1, c2, c3, c4, c5, c6, c7, c8, c9, c10, c11, c12, c13, c14, c15, c16, c17, fc⟩ := hpRow (H.get j hj)
  have IJ := Lib.hid hij
  have hj' : cs[j]? = some (blkC _ xb (hpCells xb mb ⟨s, k, mk, hh, lk, v, tk, tr, ii, nd, e, 0, 0, 0, 7⟩ (hpNext xb 7)) 99) := hj
  have HJ := Lib.hid hj'
  have HI := Lib.hid hi
  have HQ := Lib.hid hq
  have QJ := Lib.hid hqj
  clear hj hj' hi hq hij hqj
  go_enter Try.func111, Try.ntmps111
  go_wp2_with fail
  go_region_held3 (fun w' => w'.cell? ⟨xb, 0, none⟩ = some (.pointer (some ⟨mb, 0, none⟩)) ∧ w'.cell? ⟨xb, 6, none⟩ = some (.int .i64 v)) (refine ⟨?_, ?_⟩ <;> (first | (with_reducible assumption) | (simp only [cell_drewN1, cell_drew1]; with_reducible assumption) | (exact set_cell1 _ (by first | (with_reducible assumption) | (simp only [cell_drewN1, cell_drew1]; with_reducible assumption)) (by decide)))) (first | (go_at_call 39; refine (State_q ((H.drewN _).mAt q HQ.out h) v).mono ?_; rintro r w1 ⟨rfl, d1, rfl⟩) | (go_at_call 20; refine (Put_h (H.drewN _) i HI.out _ _).mono ?_; rintro r w2 ⟨rfl, H2⟩; obtain ⟨y0, y1, y2, y3, y4, y5, y6, y7, y8, y9, y10, y11, y12, y13, y14, y15, y16, y17, fy⟩ := hpRow (H2.get j (set_get19 HJ.out _ IJ.out))))
  have hj2 := set_get19 HJ.out (storeC w0.heap.size sb g (mput l (c.nodeAt v 1) 1) (wrap64 (n + 1))) IJ.out
  have H3 := (H2.blkSet j hj2 10 (.int .i64 v)).blkSet j (lset_same19 hj2 _) 7 (.bool false)
  rw [List.set_set] at H3
  go_upto_region 2 with (fail)
  obtain ⟨W3, HW3, eW3⟩ := H3.name
  rw [← eW3.out]
  have HW4 : Has w0 W3 ((cs.set i (storeC _ sb g (mput l (c.nodeAt v 1) 1) (wrap64 (n + 1)))).set j (hpB _ xb mb ⟨s, k, mk, hh, lk, v, false, tr, ii, v, e, 0, 0, 0, 7⟩ (hpNext xb 7))) := HW3
  clear eW3 H3 HW3 c0 c1 c2 c3 c4 c5 c6 c7 c8 c9 c10 c11 c12 c13 c14 c15 c16 c17 fc y0 y1 y2 y3 y4 y5 y6 y7 y8 y9 y10 y11 y12 y13 y14 y15 y16 y17 fy
  have hj4 := lset_same19 hj2 (blkC _ xb (hpCells xb mb ⟨s, k, mk, hh, lk, v, false, tr, ii, v, e, 0, 0, 0, 7⟩ (hpNext xb 7)) 99)
  obtain ⟨c0, c1, c2, c3, c4, c5, c6, c7, c8, c9, c10, c11, c12, c13, c14, c15, c16, c17, fc⟩ := hpRow (HW4.get j hj4)
  have q1 := HW4.blkSet j (xs := hpCells xb mb ⟨s, k, mk, hh, lk, v, false, tr, ii, v, e, 0, 0, 0, 7⟩ (hpNext xb 7)) (T := 99) hj4 12 (.int .i64 8)
  rw [List.set_set] at q1
  have G1 : Has w0 _ ((cs.set i (storeC _ sb g (mput l (c.nodeAt v 1) 1) (wrap64 (n + 1)))).set j (hpB _ xb mb ⟨s, k, mk, hh, lk, v, false, tr, ii, v, e, 8, 0, 0, 7⟩ (hpNext xb 7))) := q1
  clear q1
  have q2 := G1.blkSet j (xs := hpCells xb mb ⟨s, k, mk, hh, lk, v, false, tr, ii, v, e, 8, 0, 0, 7⟩ (hpNext xb 7)) (T := 99) (lset_same19 hj2 _) 13 (.int .i64 0)
  rw [List.set_set] at q2
  have G2 : Has w0 _ ((cs.set i (storeC _ sb g (mput l (c.nodeAt v 1) 1) (wrap64 (n + 1)))).set j (hpB _ xb mb ⟨s, k, mk, hh, lk, v, false, tr, ii, v, e, 8, 0, 0, 7⟩ (hpNext xb 7))) := q2
  clear q2
  have q3 := G2.blkSet j (xs := hpCells xb mb ⟨s, k, mk, hh, lk, v, false, tr, ii, v, e, 8, 0, 0, 7⟩ (hpNext xb 7)) (T := 99) (lset_same19 hj2 _) 14 (.int .i64 v)
  rw [List.set_set] at q3
  have G3 : Has w0 _ ((cs.set i (storeC _ sb g (mput l (c.nodeAt v 1) 1) (wrap64 (n + 1)))).set j (hpB _ xb mb ⟨s, k, mk, hh, lk, v, false, tr, ii, v, e, 8, v, 0, 7⟩ (hpNext xb 7))) := q3
  clear q3
  have q4 := G3.blkSet j (xs := hpCells xb mb ⟨s, k, mk, hh, lk, v, false, tr, ii, v, e, 8, v, 0, 7⟩ (hpNext xb 7)) (T := 99) (lset_same19 hj2 _) 15 (.int .i64 s)
  rw [List.set_set] at q4
  have G4 : Has w0 _ ((cs.set i (storeC _ sb g (mput l (c.nodeAt v 1) 1) (wrap64 (n + 1)))).set j (hpB _ xb mb ⟨s, k, mk, hh, lk, v, false, tr, ii, v, e, 8, v, s, 7⟩ (hpNext xb 7))) := q4
  clear q4
  have q5 := G4.blkSet j (xs := hpCells xb mb ⟨s, k, mk, hh, lk, v, false, tr, ii, v, e, 8, v, s, 7⟩ (hpNext xb 7)) (T := 99) (lset_same19 hj2 _) 16 (.int .i64 0)
  rw [List.set_set] at q5
  have G5 : Has w0 _ ((cs.set i (storeC _ sb g (mput l (c.nodeAt v 1) 1) (wrap64 (n + 1)))).set j (hpB _ xb mb ⟨s, k, mk, hh, lk, v, false, tr, ii, v, e, 8, v, s, 7⟩ (hpNext xb 7))) := q5
  clear q5
  have q6 := G5.blkSet j (xs := hpCells xb mb ⟨s, k, mk, hh, lk, v, false, tr, ii, v, e, 8, v, s, 7⟩ (hpNext xb 7)) (T := 99) (lset_same19 hj2 _) 17 (.nilFunc)
  rw [List.set_set] at q6
  have G6 : Has w0 _ ((cs.set i (storeC _ sb g (mput l (c.nodeAt v 1) 1) (wrap64 (n + 1)))).set j (hpB _ xb mb ⟨s, k, mk, hh, lk, v, false, tr, ii, v, e, 8, v, s, 0⟩ .nilFunc)) := q6
  clear q6
  go_region
  all_goals (go_wp2_with fail; go_end0; exact ⟨rfl, G6.drew⟩)
end

end Go.Proofs.Ytmiaghbakdapbaa
