/- One step of a machine that makes a node (package heap). UNDER WAY. -/
import Derived.Test.YtmiaghbakdapbaaHp19b
set_option linter.unusedVariables false
set_option linter.unusedSimpArgs false
set_option linter.unusedSectionVars false
namespace Go.Proofs.Ytmiaghbakdapbaa
open Go.ChangeShapes Go.WideShapes Go.ChangeAt Go.RowKit

section
variable {w0 w : World} {cs : List (Chunk w0.heap.size)} (H : Has w0 w cs) (i j q : Nat) {sb g xb mb : Nat} {l : List Int} {n : Int} {av rv : Value} {c : Cfg} (hi : cs[i]? = some (storeC _ sb g l n)) (hq : cs[q]? = some (mapC _ mb av rv c)) (hij : i ≠ j) (hqj : q ≠ j) (h : CfgOk c)
include H hi hq hij hqj h
set_option maxRecDepth 100000 in
set_option maxHeartbeats 1000000 in
theorem hpZ2_h (s k mk hh lk v : Int) (tk : Bool) (tr ii nd e : Int) (hj : cs[j]? = some (hpC _ xb mb ⟨s, k, mk, hh, lk, v, tk, tr, ii, nd, e, 0, 0, 0, 2⟩)) :
    Calls Try.prog 17 #[.pointer (some ⟨xb, 0, none⟩), .pointer (some ⟨sb, 0, none⟩)] w fun r w' => r = .returned (.bool false) ∧
      Has w0 w' ((cs.set i (storeC _ sb g l (wrap64 (n + 1)))).set j (hpC _ xb mb ⟨s, k, mk, hh, mld l (c.nodeAt v 3) % 4294967296, v, tk, tr, ii, nd, e, 0, 0, 0, 3⟩)) := by
  obtain ⟨c0, c1, c2, c3, c4, c5, c6, c7, c8, c9, c10, c11, c12, c13, c14, c15, c16, c17, fc⟩ := hpRow (H.get j hj)
  simp only [hpNext] at c17
  have f0 := fun (w : World) f b c => run_eql_func w (Try.underlying97) f b c
  have f1 := fun (w : World) => run_eql_nil w (Try.underlying97)
  have HJ := Lib.hid hj
  have HI := Lib.hid hi
  have HQ := Lib.hid hq
  have IJ := Lib.hid hij
  have QJ := Lib.hid hqj
  clear hi hq hij hqj hj
  go_enter Try.func17, Try.ntmps17
  go_wp2_with fail
  refine (hpLinks_h H i j q HI.out HQ.out IJ.out QJ.out h s k mk hh lk v tk tr ii nd e HJ.out).mono ?_
  rintro r w1 ⟨rfl, H1⟩
  obtain ⟨y0, y1, y2, y3, y4, y5, y6, y7, y8, y9, y10, y11, y12, y13, y14, y15, y16, y17, fy⟩ := hpRow (H1.get j (lset_same19 (set_get19 HJ.out _ IJ.out) _))
  simp only [hpNext] at y17
  clear c0 c1 c2 c3 c4 c5 c6 c7 c8 c9 c10 c11 c12 c13 c14 c15 c16 c17 fc
  go_wp2_with fail
  go_ret
  exact ⟨rfl, H1⟩
set_option maxRecDepth 100000 in
set_option maxHeartbeats 1000000 in
theorem hpZ4_h (s k mk hh lk v : Int) (tk : Bool) (tr ii nd e : Int) (hj : cs[j]? = some (hpC _ xb mb ⟨s, k, mk, hh, lk, v, tk, tr, ii, nd, e, 0, 0, 0, 4⟩)) (hiq : i ≠ q) :
    Calls Try.prog 17 #[.pointer (some ⟨xb, 0, none⟩), .pointer (some ⟨sb, 0, none⟩)] w fun r w' => r = .returned (.bool false) ∧
      Has w0 w' ((cs.set i (storeC _ sb g (mput l (c.nodeAt v 0) (IntKind.u64.wrap s)) (wrap64 (n + 1)))).set j (hpC _ xb mb ⟨s, k, mk, hh, lk, v, tk, tr, ii, nd, e, 0, 0, 0, hpRest c v ii⟩)) := by
  obtain ⟨c0, c1, c2, c3, c4, c5, c6, c7, c8, c9, c10, c11, c12, c13, c14, c15, c16, c17, fc⟩ := hpRow (H.get j hj)
  simp only [hpNext] at c17
  have f0 := fun (w : World) f b c => run_eql_func w (Try.underlying97) f b c
  have f1 := fun (w : World) => run_eql_nil w (Try.underlying97)
  have HJ := Lib.hid hj
  have HI := Lib.hid hi
  have HQ := Lib.hid hq
  have IJ := Lib.hid hij
  have QJ := Lib.hid hqj
  clear hi hq hij hqj hj
  go_enter Try.func17, Try.ntmps17
  go_wp2_with fail
  refine (hpHeader_h H i j q HI.out HQ.out IJ.out QJ.out h s k mk hh lk v tk tr ii nd e HJ.out hiq).mono ?_
  rintro r w1 ⟨rfl, H1⟩
  obtain ⟨y0, y1, y2, y3, y4, y5, y6, y7, y8, y9, y10, y11, y12, y13, y14, y15, y16, y17, fy⟩ := hpRow (H1.get j (lset_same19 (set_get19 HJ.out _ IJ.out) _))
  obtain ⟨fb, hfb⟩ := hpRest_form xb c v ii
  rw [hfb] at y17
  clear c0 c1 c2 c3 c4 c5 c6 c7 c8 c9 c10 c11 c12 c13 c14 c15 c16 c17 fc
  go_wp2_with fail
  go_ret
  exact ⟨rfl, H1⟩
set_option maxRecDepth 100000 in
set_option maxHeartbeats 1000000 in
theorem hpZ5_h (s k mk hh lk v : Int) (tk : Bool) (tr ii nd e : Int) (hj : cs[j]? = some (hpC _ xb mb ⟨s, k, mk, hh, lk, v, tk, tr, ii, nd, e, 0, 0, 0, 5⟩)) (hiq : i ≠ q) :
    Calls Try.prog 17 #[.pointer (some ⟨xb, 0, none⟩), .pointer (some ⟨sb, 0, none⟩)] w fun r w' => r = .returned (.bool false) ∧
      Has w0 w' ((cs.set i (storeC _ sb g (mput l (c.slotAt v ii) 0) (wrap64 (n + 1)))).set j (hpC _ xb mb ⟨s, k, mk, hh, lk, v, tk, tr, wrap64 (ii + 1), nd, e, 0, 0, 0, hpRest c v (wrap64 (ii + 1))⟩)) := by
  obtain ⟨c0, c1, c2, c3, c4, c5, c6, c7, c8, c9, c10, c11, c12, c13, c14, c15, c16, c17, fc⟩ := hpRow (H.get j hj)
  simp only [hpNext] at c17
  have f0 := fun (w : World) f b c => run_eql_func w (Try.underlying97) f b c
  have f1 := fun (w : World) => run_eql_nil w (Try.underlying97)
  have HJ := Lib.hid hj
  have HI := Lib.hid hi
  have HQ := Lib.hid hq
  have IJ := Lib.hid hij
  have QJ := Lib.hid hqj
  clear hi hq hij hqj hj
  go_enter Try.func17, Try.ntmps17
  go_wp2_with fail
  refine (hpSlot_h H i j q HI.out HQ.out IJ.out QJ.out h s k mk hh lk v tk tr ii nd e HJ.out hiq).mono ?_
  rintro r w1 ⟨rfl, H1⟩
  obtain ⟨y0, y1, y2, y3, y4, y5, y6, y7, y8, y9, y10, y11, y12, y13, y14, y15, y16, y17, fy⟩ := hpRow (H1.get j (lset_same19 (set_get19 HJ.out _ IJ.out) _))
  obtain ⟨fb, hfb⟩ := hpRest_form xb c v (wrap64 (ii + 1))
  rw [hfb] at y17
  clear c0 c1 c2 c3 c4 c5 c6 c7 c8 c9 c10 c11 c12 c13 c14 c15 c16 c17 fc
  go_wp2_with fail
  go_ret
  exact ⟨rfl, H1⟩
set_option maxRecDepth 100000 in
set_option maxHeartbeats 1000000 in
theorem hpZ6_h (s k mk hh lk v : Int) (tk : Bool) (tr ii nd e : Int) (hj : cs[j]? = some (hpC _ xb mb ⟨s, k, mk, hh, lk, v, tk, tr, ii, nd, e, 0, 0, 0, 6⟩)) :
    Calls Try.prog 17 #[.pointer (some ⟨xb, 0, none⟩), .pointer (some ⟨sb, 0, none⟩)] w fun r w' => r = .returned (.bool false) ∧
      Has w0 w' ((cs.set i (storeC _ sb g (mput l (c.nodeAt v 2) mk) (wrap64 (n + 1)))).set j (hpC _ xb mb ⟨s, k, mk, hh, lk, v, tk, tr, ii, nd, e, 0, 0, 0, 7⟩)) := by
  obtain ⟨c0, c1, c2, c3, c4, c5, c6, c7, c8, c9, c10, c11, c12, c13, c14, c15, c16, c17, fc⟩ := hpRow (H.get j hj)
  simp only [hpNext] at c17
  have f0 := fun (w : World) f b c => run_eql_func w (Try.underlying97) f b c
  have f1 := fun (w : World) => run_eql_nil w (Try.underlying97)
  have HJ := Lib.hid hj
  have HI := Lib.hid hi
  have HQ := Lib.hid hq
  have IJ := Lib.hid hij
  have QJ := Lib.hid hqj
  clear hi hq hij hqj hj
  go_enter Try.func17, Try.ntmps17
  go_wp2_with fail
  refine (hpMarks_h H i j q HI.out HQ.out IJ.out QJ.out h s k mk hh lk v tk tr ii nd e HJ.out).mono ?_
  rintro r w1 ⟨rfl, H1⟩
  obtain ⟨y0, y1, y2, y3, y4, y5, y6, y7, y8, y9, y10, y11, y12, y13, y14, y15, y16, y17, fy⟩ := hpRow (H1.get j (lset_same19 (set_get19 HJ.out _ IJ.out) _))
  simp only [hpNext] at y17
  clear c0 c1 c2 c3 c4 c5 c6 c7 c8 c9 c10 c11 c12 c13 c14 c15 c16 c17 fc
  go_wp2_with fail
  go_ret
  exact ⟨rfl, H1⟩
set_option maxRecDepth 100000 in
set_option maxHeartbeats 1000000 in
theorem hpZ7_h (s k mk hh lk v : Int) (tk : Bool) (tr ii nd e : Int) (hj : cs[j]? = some (hpC _ xb mb ⟨s, k, mk, hh, lk, v, tk, tr, ii, nd, e, 0, 0, 0, 7⟩)) :
    Calls Try.prog 17 #[.pointer (some ⟨xb, 0, none⟩), .pointer (some ⟨sb, 0, none⟩)] w fun r w' => r = .returned (.bool true) ∧
      Has w0 w' ((cs.set i (storeC _ sb g (mput l (c.nodeAt v 1) 1) (wrap64 (n + 1)))).set j (hpC _ xb mb ⟨s, k, mk, hh, lk, v, false, tr, ii, v, e, 8, v, s, 0⟩)) := by
  obtain ⟨c0, c1, c2, c3, c4, c5, c6, c7, c8, c9, c10, c11, c12, c13, c14, c15, c16, c17, fc⟩ := hpRow (H.get j hj)
  simp only [hpNext] at c17
  have f0 := fun (w : World) f b c => run_eql_func w (Try.underlying97) f b c
  have f1 := fun (w : World) => run_eql_nil w (Try.underlying97)
  have HJ := Lib.hid hj
  have HI := Lib.hid hi
  have HQ := Lib.hid hq
  have IJ := Lib.hid hij
  have QJ := Lib.hid hqj
  clear hi hq hij hqj hj
  go_enter Try.func17, Try.ntmps17
  go_wp2_with fail
  refine (hpState_h H i j q HI.out HQ.out IJ.out QJ.out h s k mk hh lk v tk tr ii nd e HJ.out).mono ?_
  rintro r w1 ⟨rfl, H1⟩
  obtain ⟨y0, y1, y2, y3, y4, y5, y6, y7, y8, y9, y10, y11, y12, y13, y14, y15, y16, y17, fy⟩ := hpRow (H1.get j (lset_same19 (set_get19 HJ.out _ IJ.out) _))
  simp only [hpNext] at y17
  clear c0 c1 c2 c3 c4 c5 c6 c7 c8 c9 c10 c11 c12 c13 c14 c15 c16 c17 fc
  go_wp2_with fail
  go_ret
  exact ⟨rfl, H1⟩
set_option maxRecDepth 100000 in
set_option maxHeartbeats 1000000 in
theorem hpZ1_h (s k mk hh lk v : Int) (tk : Bool) (tr ii nd e : Int) (hj : cs[j]? = some (hpC _ xb mb ⟨s, k, mk, hh, lk, v, tk, tr, ii, nd, e, 0, 0, 0, 1⟩)) (hw : 0 ≤ mld l (c.headAt k) ∧ mld l (c.headAt k) < 18446744073709551616) :
    Calls Try.prog 17 #[.pointer (some ⟨xb, 0, none⟩), .pointer (some ⟨sb, 0, none⟩)] w fun r w' => r = .returned (.bool (hpPc (mld l (c.headAt k) % 4294967296 == 0) 0 2 == 0)) ∧
      Has w0 w' ((cs.set i (storeC _ sb g l (wrap64 (n + 1)))).set j (hpC _ xb mb ⟨s, k, mk, mld l (c.headAt k), lk, mld l (c.headAt k) % 4294967296, tk, wrap64 (tr + 1), ii, nd, hpE (mld l (c.headAt k) % 4294967296 == 0) 22 e, 0, 0, 0, hpPc (mld l (c.headAt k) % 4294967296 == 0) 0 2⟩)) := by
  obtain ⟨B, hB⟩ : ∃ B, B = (mld l (c.headAt k) % 4294967296 == 0) := ⟨_, rfl⟩
  rw [← hB]
  have HB := Lib.hid hB
  clear hB
  obtain ⟨c0, c1, c2, c3, c4, c5, c6, c7, c8, c9, c10, c11, c12, c13, c14, c15, c16, c17, fc⟩ := hpRow (H.get j hj)
  simp only [hpNext] at c17
  have f0 := fun (w : World) f b c => run_eql_func w (Try.underlying97) f b c
  have f1 := fun (w : World) => run_eql_nil w (Try.underlying97)
  have HJ := Lib.hid hj
  have HI := Lib.hid hi
  have HQ := Lib.hid hq
  have IJ := Lib.hid hij
  have QJ := Lib.hid hqj
  clear hi hq hij hqj hj
  go_enter Try.func17, Try.ntmps17
  go_wp2_with fail
  refine (hpLook_h H i j q HI.out HQ.out IJ.out QJ.out h s k mk hh lk v tk tr ii nd e HJ.out hw).mono ?_
  rw [← HB.out]
  rintro r w1 ⟨rfl, H1⟩
  cases B <;> (
    obtain ⟨y0, y1, y2, y3, y4, y5, y6, y7, y8, y9, y10, y11, y12, y13, y14, y15, y16, y17, fy⟩ := hpRow (H1.get j (lset_same19 (set_get19 HJ.out _ IJ.out) _))
    simp only [hpNext, hpPc, cond_true, cond_false] at y17
    clear c0 c1 c2 c3 c4 c5 c6 c7 c8 c9 c10 c11 c12 c13 c14 c15 c16 c17 fc
    go_wp2_with fail
    go_ret
    exact ⟨rfl, H1⟩)
set_option maxRecDepth 100000 in
set_option maxHeartbeats 1000000 in
theorem hpZ3_h (s k mk hh lk v : Int) (tk : Bool) (tr ii nd e : Int) (hj : cs[j]? = some (hpC _ xb mb ⟨s, k, mk, hh, lk, v, tk, tr, ii, nd, e, 0, 0, 0, 3⟩)) (hw : 0 ≤ hh ∧ hh < 18446744073709551616 ∧ 0 ≤ lk ∧ lk < 4294967296) :
    Calls Try.prog 17 #[.pointer (some ⟨xb, 0, none⟩), .pointer (some ⟨sb, 0, none⟩)] w fun r w' => r = .returned (.bool (hpPc (mswapped l (c.headAt k) hh) 4 (hpPc (tr == 4) 0 1) == 0)) ∧
      Has w0 w' ((cs.set i (storeC _ sb g (mswap l (c.headAt k) hh (wTurn hh lk)) (wrap64 (n + 1)))).set j (hpC _ xb mb ⟨s, k, mk, hh, lk, v, (mswapped l (c.headAt k) hh), tr, ii, nd, hpE (mswapped l (c.headAt k) hh) e (hpE (tr == 4) 23 e), 0, 0, 0, hpPc (mswapped l (c.headAt k) hh) 4 (hpPc (tr == 4) 0 1)⟩)) := by
  obtain ⟨B, hB⟩ : ∃ B, B = mswapped l (c.headAt k) hh := ⟨_, rfl⟩
  rw [← hB]
  have HB := Lib.hid hB
  clear hB
  obtain ⟨D, hD⟩ : ∃ D, D = (tr == 4) := ⟨_, rfl⟩
  rw [← hD]
  have HD := Lib.hid hD
  clear hD
  obtain ⟨c0, c1, c2, c3, c4, c5, c6, c7, c8, c9, c10, c11, c12, c13, c14, c15, c16, c17, fc⟩ := hpRow (H.get j hj)
  simp only [hpNext] at c17
  have f0 := fun (w : World) f b c => run_eql_func w (Try.underlying97) f b c
  have f1 := fun (w : World) => run_eql_nil w (Try.underlying97)
  have HJ := Lib.hid hj
  have HI := Lib.hid hi
  have HQ := Lib.hid hq
  have IJ := Lib.hid hij
  have QJ := Lib.hid hqj
  clear hi hq hij hqj hj
  go_enter Try.func17, Try.ntmps17
  go_wp2_with fail
  refine (hpSwap_h H i j q HI.out HQ.out IJ.out QJ.out h s k mk hh lk v tk tr ii nd e HJ.out hw).mono ?_
  rw [← HB.out]
  rw [← HD.out]
  rintro r w1 ⟨rfl, H1⟩
  cases B <;> cases D <;> (
    obtain ⟨y0, y1, y2, y3, y4, y5, y6, y7, y8, y9, y10, y11, y12, y13, y14, y15, y16, y17, fy⟩ := hpRow (H1.get j (lset_same19 (set_get19 HJ.out _ IJ.out) _))
    simp only [hpNext, hpPc, cond_true, cond_false] at y17
    clear c0 c1 c2 c3 c4 c5 c6 c7 c8 c9 c10 c11 c12 c13 c14 c15 c16 c17 fc
    go_wp2_with fail
    go_ret
    exact ⟨rfl, H1⟩)
end

end Go.Proofs.Ytmiaghbakdapbaa
