/- The walk of SizesCells. No condition. -/
import Derived.Test.YtiokngcpbakaaaaCls
import Derived.Test.YtiokngcpbakaaaaRef2
import Derived.Test.YtiokngcpbakaaaaLaw2
set_option linter.unusedVariables false
namespace Go.Proofs.Ytiokngcpbakaaaa
open Go.ChangeShapes Go.WideShapes Go.ChangeAt Go.RowKit

set_option maxRecDepth 100000 in
set_option maxHeartbeats 1000000 in
theorem walk_SizesCells (c0 c1 c2 c3 c4 v : Int) (w : World) (v0 : -9223372036854775808 ≤ v) (v1 : v ≤ 9223372036854775807) :
    Calls Try.prog 10 #[.agg #[.int .i64 c0, .int .i64 c1, .int .i64 c2, .int .i64 c3, .int .i64 c4], .int .i64 v] w fun e w' => e = .returned (.bool true) ∧ Below w.heap.size w w' := by
  go_enter Try.func10, Try.ntmps10
  have G0 := (Has.nil w).blkNew #[.int .i64 c0, .int .i64 c1, .int .i64 c2, .int .i64 c3, .int .i64 c4] 42
  go_wp2_with fail
  refine (awake2 _).mono ?_
  rintro e w1 ⟨rfl, b1⟩
  have G1 := G0.up b1
  obtain ⟨d0, d1, d2, d3, d4, fz⟩ := row5 (G1.get 0 rfl)
  clear G0 b1
  go_wp2_with fail
  refine (RAll_h G1 c0 c1 c2 c3 c4).mono ?_
  rintro e w2 ⟨ov, rfl, G2⟩
  clear G1 d0 d1 d2 d3 d4 fz
  have hlen := cells_len c0 c1 c2 c3 c4
  have htot := cells_total c0 c1 c2 c3 c4
  have hlb := cPre_len [c0, c1, c2, c3, c4] 5
  have hcl := cells_class c0 c1 c2 c3 c4 v
  have hcn := cells_class_no c0 c1 c2 c3 c4 v
  generalize hxs : cPre [c0, c1, c2, c3, c4] 5 = xs at *
  clear hxs
  have HL := Lib.hid hlen
  have HT := Lib.hid htot
  have HC := Lib.hid (And.intro hcl hcn)
  clear hlen htot hcl hcn
  obtain ⟨oa, oc, rfl⟩ := own_is (G2.get 1 rfl)
  go_wp2_with fail
  go_loopw [7, 8] (fun nv iv wr => ∃ (i : Nat), i ≤ xs.length ∧ iv = .int .i64 i ∧ nv = .int .i64 (wSum (xs.take i)) ∧ Has w wr [blkC _ w.heap.size #[.int .i64 c0, .int .i64 c1, .int .i64 c2, .int .i64 c3, .int .i64 c4] 42, ownN _ 3 .i64 (.slice oa xs.length oc) xs]) (fun _ iv _ => xs.length - (intOf iv).toNat)
  case atStart => exact ⟨0, by omega, rfl, rfl, G2⟩
  case round =>
    obtain ⟨i, hi, rfl, rfl, G⟩ := hrel
    by_cases hlt : i < xs.length
    · have hlt' : (i : Int) < (xs.length : Int) := by omega
      obtain ⟨x, hx⟩ : ∃ x, xs[i]? = some x := ⟨xs[i], by simp [hlt]⟩
      obtain ⟨g, off, rfl, -, -, -, hcell, hfr⟩ := own_atV (G.get 1 rfl) (by omega)
      have hc := hcell i (.int .i64 x) (by rw [List.getElem?_map, hx]; rfl)
      have hb1 := wSum_bd (xs.take i) (fun k _ => sWords_bd k)
      have hb2 : (xs.take i).length ≤ 60 := by rw [List.length_take]; omega
      have hb3 := sWords_bd x
      have WT := Lib.hid (wSum_take xs i x hx)
      have hs1 : wrap64 (wSum (xs.take i) + sWords x) = wSum (xs.take i) + sWords x := wrap64_id _ (by omega) (by omega)
      clear hcell hfr hx
      go_wp2_with fail
      refine (RWords_c x _).mono ?_
      rintro e w3 ⟨rfl, dn, rfl⟩
      go_wp2_with fail
      go_roundw
      case rel => exact ⟨i + 1, by omega, by go_num, by rw [WT.out], G.drewN dn⟩
      case measure => simp [intOf]; omega
    · have hlt' : ¬ (i : Int) < (xs.length : Int) := by omega
      have hit : wSum (xs.take i) = sTotal c0 c1 c2 c3 c4 := by rw [List.take_of_length_le (by omega)]; exact HT.out
      obtain ⟨d0, d1, d2, d3, d4, fz⟩ := row5 (G.get 0 rfl)
      have hn1 : (sNodes c0 c1 c2 c3 c4 == (xs.length : Int)) = true := by rw [HL.out]; simp
      have hn2 : (sTotal c0 c1 c2 c3 c4 == sTotal c0 c1 c2 c3 c4) = true := by simp
      have hn3 : (sClass c0 c1 c2 c3 c4 v == sClass c0 c1 c2 c3 c4 v) = true := by simp
      have ARMS := True.intro
      by_cases hv : 1 ≤ v ∧ v ≤ (xs.length : Int)
      · obtain ⟨va, vb⟩ := hv
        obtain ⟨g, off, rfl, -, -, -, hcell, hfr⟩ := own_atV (G.get 1 rfl) (by omega)
        have hc := hcell (v - 1).toNat (.int .i64 (sClass c0 c1 c2 c3 c4 v)) (by rw [List.getElem?_map, HC.out.1 va (by rw [← HL.out]; exact vb)]; rfl)
        rw [show (v - 1).toNat = v.toNat - 1 by omega] at hc
        have hw1 : wrap64 (v - 1) = v - 1 := wrap64_id _ (by omega) (by omega)
        have hw2 : 0 ≤ v - 1 := by omega
        have hw3 : v - 1 < (xs.length : Int) := by omega
        clear hcell hfr
        rw [hit]
        clear hit
        go_wp2_with fail
        refine (Nodes_c c0 c1 c2 c3 c4 _).mono ?_
        rintro e w3 ⟨rfl, b3⟩
        have G3 := G.up b3
        obtain ⟨e0, e1, e2, e3, e4, ez⟩ := row5 (G3.get 0 rfl)
        clear d0 d1 d2 d3 d4 fz b3
        go_wp2_with fail
        refine (Total_c c0 c1 c2 c3 c4 _).mono ?_
        rintro e w4 ⟨rfl, b4⟩
        have G4 := G3.up b4
        obtain ⟨d0, d1, d2, d3, d4, fz⟩ := row5 (G4.get 0 rfl)
        clear e0 e1 e2 e3 e4 ez b4
        go_wp2_with fail
        refine (Class_c c0 c1 c2 c3 c4 v v1 _).mono ?_
        rintro e w5 ⟨rfl, b5⟩
        have G5 := G4.up b5
        go_wp2_with fail
        go_ret
        exact ⟨rfl, G5.below⟩
      · have hcm : sClass c0 c1 c2 c3 c4 v = -1 := HC.out.2 (by rw [← HL.out]; omega)
        have hn4 : (sClass c0 c1 c2 c3 c4 v == -1) = true := by rw [hcm]; rfl
        clear hcm
        rw [hit]
        clear hit
        by_cases va : 1 ≤ v
        · have vb : ¬ v ≤ (xs.length : Int) := by omega
          go_wp2_with fail
          refine (Nodes_c c0 c1 c2 c3 c4 _).mono ?_
          rintro e w3 ⟨rfl, b3⟩
          have G3 := G.up b3
          obtain ⟨e0, e1, e2, e3, e4, ez⟩ := row5 (G3.get 0 rfl)
          clear d0 d1 d2 d3 d4 fz b3
          go_wp2_with fail
          refine (Total_c c0 c1 c2 c3 c4 _).mono ?_
          rintro e w4 ⟨rfl, b4⟩
          have G4 := G3.up b4
          obtain ⟨d0, d1, d2, d3, d4, fz⟩ := row5 (G4.get 0 rfl)
          clear e0 e1 e2 e3 e4 ez b4
          go_wp2_with fail
          refine (Class_c c0 c1 c2 c3 c4 v v1 _).mono ?_
          rintro e w5 ⟨rfl, b5⟩
          have G5 := G4.up b5
          go_wp2_with fail
          go_ret
          exact ⟨rfl, G5.below⟩
        · go_wp2_with fail
          refine (Nodes_c c0 c1 c2 c3 c4 _).mono ?_
          rintro e w3 ⟨rfl, b3⟩
          have G3 := G.up b3
          obtain ⟨e0, e1, e2, e3, e4, ez⟩ := row5 (G3.get 0 rfl)
          clear d0 d1 d2 d3 d4 fz b3
          go_wp2_with fail
          refine (Total_c c0 c1 c2 c3 c4 _).mono ?_
          rintro e w4 ⟨rfl, b4⟩
          have G4 := G3.up b4
          obtain ⟨d0, d1, d2, d3, d4, fz⟩ := row5 (G4.get 0 rfl)
          clear e0 e1 e2 e3 e4 ez b4
          go_wp2_with fail
          refine (Class_c c0 c1 c2 c3 c4 v v1 _).mono ?_
          rintro e w5 ⟨rfl, b5⟩
          have G5 := G4.up b5
          go_wp2_with fail
          go_ret
          exact ⟨rfl, G5.below⟩

end Go.Proofs.Ytiokngcpbakaaaa
