/- The document's graph: New. Condition: fewer than a million roots. -/
import Derived.Test.YtfjkmdhkalbpkaaRg7j
set_option linter.unusedVariables false
set_option linter.unusedSimpArgs false
namespace Go.Proofs.Ytfjkmdhkalbpkaa
open Go.ChangeShapes Go.WideShapes Go.ChangeAt Go.RowKit

def nodesL (s : Int) : List (List Int) := if s < 0 then [] else [List.replicate (min s 64).toNat 0]

theorem Has.third {w0 w : World} {cs : List (Chunk w0.heap.size)} {a b c : Chunk w0.heap.size} (H : Has w0 w (cs ++ [a, b, c])) : Has w0 w (cs ++ [c]) := by
  have h := H.perm (List.Perm.append_left cs (List.perm_append_comm (l₁ := [a, b]) (l₂ := [c])))
  have h' : Has w0 w ((cs ++ [c]) ++ [a, b]) := by rw [List.append_assoc]; exact h
  exact h'.front7

/-- The end of New. -/
theorem new_fin {w0 w : World} {cs : List (Chunk w0.heap.size)} {b0 b1 : Chunk w0.heap.size} {L : List Int} {LN k rc lc : Nat} {la ra : Option Addr} {nv : Value} {ns : List (Value × List Int)} {M : Int} {N : List (List Int)} (hL : LN = L.length)
    (G : Has w0 w (cs ++ [b0, b1, rgC _ ⟨.slice none 0 0, [], nv, ns⟩ ⟨M, [], N⟩, ownN _ 3 .i64 (.slice la LN lc) L, ownC _ 30 1 (.slice ra k rc) k (List.replicate k (.slice la LN lc))])) :
    Has w0 w (cs ++ [rgC _ ⟨.slice ra k rc, List.replicate k (.slice la LN lc, L), nv, ns⟩ ⟨M, List.replicate k L, N⟩]) := by
  have G1 : Has w0 w ((cs ++ [b0, b1, rgC _ ⟨.slice none 0 0, [], nv, ns⟩ ⟨M, [], N⟩]) ++ [ownN _ 3 .i64 (.slice la LN lc) L, ownC _ 30 1 (.slice ra k rc) k (List.replicate k (.slice la LN lc))]) := by
    rw [List.append_assoc]; exact G
  have hq : Own w 3 1 (.slice la LN lc) L.length (L.map (Value.int .i64)) := G1.get _ (app_idx _ _ 0)
  have G2 := rg_roots_all (i := cs.length + 2) (app_idx _ _ 2) _ G1 1 rfl ⟨rd_own hq, own_capd hq⟩ (fun q hq => .inr ⟨0, _, rfl, hq⟩)
  rw [set_app] at G2
  exact Has.third G2

set_option maxRecDepth 100000 in
set_option maxHeartbeats 4000000 in
theorem New_r {w0 w : World} {cs : List (Chunk w0.heap.size)} (H : Has w0 w cs) (mm M s : Int) (hM0 : 0 ≤ M) (hM : M < 1000000) :
    Calls Try.prog 15 #[.int .i64 mm, .int .i64 M, .int .i64 s] w fun e w' => RgN w0 cs ⟨M, rootsK mm M s, nodesL s⟩ e w' := by
  have hn16 := mutN_le mm
  have e16 := mutN_eq mm
  unfold rootsK
  generalize mutN mm = n at hn16 e16 ⊢
  have K : Has w0 ((w.alloc (.cells #[.slice none 0 0, .slice none 0 0, .int .i64 0] 36)).alloc (.cells #[.slice none 0 0, .slice none 0 0, .int .i64 M] 36)) (cs ++ [rgT w.heap.size _ (.slice none 0 0) (.slice none 0 0) 0, rgT (w.heap.size + 1) _ (.slice none 0 0) (.slice none 0 0) M]) := by
    have h := (H.blkNew #[.slice none 0 0, .slice none 0 0, .int .i64 0] 36).blkNew #[.slice none 0 0, .slice none 0 0, .int .i64 M] 36
    rw [show (w.alloc (.cells #[.slice none 0 0, .slice none 0 0, .int .i64 0] 36)).heap.size = w.heap.size + 1 by simp] at h
    rw [List.append_assoc] at h
    exact h
  have E16 := Lib.hid e16
  clear e16
  go_enter Try.func15, Try.ntmps15
  go_upto_if 14 with (fail)
  obtain ⟨W, HW, eW⟩ := K.name
  rw [← eW.out]
  clear eW K
  obtain ⟨B, hB⟩ : ∃ B, B = w.heap.size := ⟨_, rfl⟩
  rw [← hB] at HW ⊢
  clear hB
  have K1 := (HW.rg0 M).ownNil 3 1
  go_cut [8, 9, 15, 16, 17, 18, 19, 20, 21, 22, 23, 24, 25, 26, 27] (fun lv _ _ _ _ _ _ _ _ _ _ _ _ _ _ wx => ∃ (la : Option Addr) (lc : Nat) (na : Option Addr) (nn nc : Nat) (ns : List (Value × List Int)), lv = .slice la (rootL M s).length lc ∧ Has w0 wx (cs ++ [rgT B _ (.slice none 0 0) (.slice none 0 0) 0, rgT (B + 1) _ (.slice none 0 0) (.slice na nn nc) M, rgC _ ⟨.slice none 0 0, [], .slice na nn nc, ns⟩ ⟨M, [], nodesL s⟩, ownN _ 3 .i64 (.slice la (rootL M s).length lc) (rootL M s)]))
  case first =>
    obtain ⟨x0, x1, x2, fx⟩ := row3 (HW.get _ (app_idx _ _ 1))
    by_cases hs : s < 0
    · have eR : rootL M s = [] := if_neg (by omega)
      have eN : nodesL s = [] := if_pos hs
      have hsb : decide (0 ≤ s) = false := by simp; omega
      go_wp2_with fail
      go_meet
      case rel =>
        rw [eR, eN]
        rw [List.append_assoc, List.append_assoc] at K1
        exact ⟨none, 0, none, 0, 0, [], rfl, K1⟩
    · have hsb : decide (0 ≤ s) = true := by simp; omega
      have eN : nodesL s = [List.replicate (min s 64).toNat 0] := if_neg hs
      obtain ⟨q, hq⟩ : ∃ q : Nat, min s 64 = (q : Int) := ⟨(min s 64).toNat, by omega⟩
      have hq64 : q ≤ 64 := by omega
      go_upto_if 17 with (fail)
      go_cut [9] (fun nv wx => nv = .int .i64 q ∧ W = wx)
      case first =>
        by_cases h64 : 64 < s
        · go_wp2_with fail
          go_meet
          case rel => exact ⟨by congr 1; omega, rfl⟩
        · go_wp2_with fail
          go_meet
          case rel => exact ⟨by congr 1; omega, rfl⟩
      case rest =>
      obtain ⟨rfl, rfl⟩ := hcut
      have hmk := fun w : World => run_make_row' (P := Try.prog) 30 3 (.int .i64 0) 8 Try.underlying30 (by kernel_rfl) rfl .i64 .i64 q (by omega) (by omega) w
      rw [show (min s 64).toNat = q by omega] at eN
      generalize hY : madeCells #[Value.int .i64 0] q = Y at hmk
      have eY : Y.toList = List.replicate q (.int .i64 0) := by rw [← hY, toList_madeCells_one]
      have sY : Y.size = q * 1 := by rw [← hY, size_madeCells]; omega
      have O1 := ((HW.rg0 M).ownNil 30 1).ownLit Y 3 1 q sY (by omega)
      rw [eY, List.append_assoc, List.append_assoc, List.append_assoc] at O1
      have O2 : Has w0 (W.alloc (.cells Y 3)) (cs ++ [rgT B _ (.slice none 0 0) (.slice none 0 0) 0, rgT (B + 1) _ (.slice none 0 0) (.slice none 0 0) M, rg0 _ M, ownC _ 30 1 (.slice none 0 0) 0 [], ownC _ 3 1 (.slice (some ⟨W.heap.size, 0, none⟩) q q) q (List.replicate q (.int .i64 0))]) := O1
      clear O1 hY eY sY K1 HW
      obtain ⟨p0, p1, p2, fp⟩ := row3 (O2.get _ (app_idx _ _ 1))
      have O3 := O2.alloc (.cells #[.slice (some ⟨W.heap.size, 0, none⟩) q q] 30)
      obtain ⟨r0, r1, r2, fr⟩ := row3 (O3.get _ (app_idx _ _ 1))
      go_upto_region 7 with (fail)
      go_region_law (first | (refine step_app ((O2.alloc (.cells #[.slice (some ⟨W.heap.size, 0, none⟩) q q] 30)).drew) (cs.length + 3) rfl _ _ rfl el_s7 rfl (by decide) (by decide) (app_idx _ _ 3) rfl [.slice (some ⟨W.heap.size, 0, none⟩) q q] (W.heap.size + 1) (blk_new2 _ _ _ _) rfl rfl (by simp [Value.oneCell']) (by omega) ?_; intro v1 w5 G5; rw [set_app] at G5; obtain ⟨xa, xc, rfl⟩ := own_is (G5.get _ (app_idx _ _ 3)); obtain ⟨e0, e1, e2, fe⟩ := row3 (G5.get _ (app_idx _ _ 1))))
      all_goals
        go_upto_region 8 with (fail)
        have G6 := G5.blkSet (cs.length + 1) (app_idx _ _ 1) 1 (.slice xa (0 + 1) xc)
        rw [set_app] at G6
        have G7 : Has w0 (w5.setCell ⟨B + 1, 1, none⟩ (.slice xa (0 + 1) xc)) ((cs ++ [rgT B _ (.slice none 0 0) (.slice none 0 0) 0, rgT (B + 1) _ (.slice none 0 0) (.slice xa 1 xc) M, rg0 _ M]) ++ [ownC _ 30 1 (.slice xa (0 + 1) xc) (0 + 1) [.slice (some ⟨W.heap.size, 0, none⟩) q q], ownC _ 3 1 (.slice (some ⟨W.heap.size, 0, none⟩) q q) q (List.replicate q (.int .i64 0))]) := by
          rw [List.append_assoc]; exact G6
        have hq6 : Own _ 3 1 (.slice (some ⟨W.heap.size, 0, none⟩) q q) q (List.replicate q (.int .i64 0)) := G7.get _ (app_idx _ _ 1)
        have hr6 : Rd (w5.setCell ⟨B + 1, 1, none⟩ (.slice xa (0 + 1) xc)) (.slice (some ⟨W.heap.size, 0, none⟩) q q) (List.replicate q 0) := rd_own (by rw [List.length_replicate, List.map_replicate]; exact hq6)
        have hc6 := own_capd hq6
        have G8 := rg_nodes_more (X := ⟨.slice none 0 0, [], .slice none 0 0, []⟩) (v := .slice xa (0 + 1) xc) (xv := .slice (some ⟨W.heap.size, 0, none⟩) q q) (i := cs.length + 2) (app_idx _ _ 2) _ G7 0 rfl ⟨hr6, hc6⟩ (fun q hq => .inr ⟨1, _, rfl, hq⟩)
        rw [set_app] at G8
        obtain ⟨W8, HW8, eW8⟩ := G8.name
        rw [← eW8.out]
        clear eW8 G8 G7 G6 G5 O2 O3 p0 p1 p2 fp r0 r1 r2 fr x0 x1 x2 fx hmk e0 e1 e2 fe hq6 hr6 hc6
        by_cases hm : 0 < M
        · have eR : rootL M s = [1] := if_pos ⟨by omega, hm⟩
          go_wp2_with fail
          go_meet
          case rel =>
            rw [eR, eN]
            have h := HW8.ownLit #[.int .i64 1] 3 1 1 rfl (by omega)
            rw [List.append_assoc] at h
            exact ⟨_, _, _, _, _, _, rfl, h⟩
        · have eR : rootL M s = [] := if_neg (by omega)
          have hmb : decide (0 < M) = false := by simpa using hm
          go_wp2_with fail
          go_meet
          case rel =>
            rw [eR, eN]
            have h := HW8.ownNil 3 1
            rw [List.append_assoc] at h
            exact ⟨none, 0, _, _, _, _, rfl, h⟩
  case rest =>
    obtain ⟨la, lc, na, nn, nc, ns, rfl, G⟩ := hcut
    clear K1 HW
    have G0 := G.ownNil 30 1
    rw [List.append_assoc] at G0
    generalize hLL : rootL M s = L at G0 ⊢
    obtain ⟨LN, hLN⟩ : ∃ LN, LN = L.length := ⟨_, rfl⟩
    have HLN := Lib.hid hLN
    have HLL := Lib.hid hLL
    have G1 : Has w0 wc (cs ++ [rgT B _ (.slice none 0 0) (.slice none 0 0) 0, rgT (B + 1) _ (.slice none 0 0) (.slice na nn nc) M, rgC _ ⟨.slice none 0 0, [], .slice na nn nc, ns⟩ ⟨M, [], nodesL s⟩, ownN _ 3 .i64 (.slice la LN lc) L, ownC _ 30 1 (.slice none 0 0) 0 []]) := by rw [hLN]; exact G0
    rw [← hLN]
    clear hLN hLL G G0
    go_wp2_with fail
    go_loopw [10] (fun iv wr => ∃ (k : Nat) (ra : Option Addr) (rc : Nat), k ≤ n ∧ iv = .int .i64 k ∧ Has w0 wr (cs ++ [rgT B _ (.slice none 0 0) (.slice none 0 0) 0, rgT (B + 1) _ (.slice ra k rc) (.slice na nn nc) M, rgC _ ⟨.slice none 0 0, [], .slice na nn nc, ns⟩ ⟨M, [], nodesL s⟩, ownN _ 3 .i64 (.slice la LN lc) L, ownC _ 30 1 (.slice ra k rc) k (List.replicate k (.slice la LN lc))])) (fun iv _ => n - (intOf iv).toNat)
    case atStart => exact ⟨0, none, 0, by omega, rfl, G1⟩
    case round =>
    obtain ⟨k, ra, rc, hk, rfl, G⟩ := hrel
    clear G1
    obtain ⟨x0, x1, x2, fx⟩ := row3 (G.get _ (app_idx _ _ 1))
    obtain ⟨z0, z1, z2, fz⟩ := row3 (G.get _ (app_idx _ _ 0))
    by_cases hlt : k < n
    · have b1 : decide ((k : Int) < mm) = true := by have := E16.out; simp; omega
      have b2 : decide ((k : Int) < 16) = true := by simp; omega
      go_upto_region 13 with (fail)
      go_wp2_with (at_builtin; refine wpl_app G (cs.length + 4) rfl _ _ rfl el_s7 rfl (by decide) (by decide) (app_idx _ _ 4) rfl [.slice la LN lc] rfl rfl (by simp [Value.oneCell']) (by omega) ?_; intro v2 w2 G3; rw [set_app] at G3; obtain ⟨xa, xc, rfl⟩ := own_is (G3.get _ (app_idx _ _ 4)); obtain ⟨e0, e1, e2, fe⟩ := row3 (G3.get _ (app_idx _ _ 1)))
      go_roundw
      case rel =>
        have G6 := G3.blkSet (cs.length + 1) (app_idx _ _ 1) 0 (.slice xa (k + 1) xc)
        rw [set_app] at G6
        refine ⟨k + 1, xa, xc, by omega, by go_num, ?_⟩
        rw [List.replicate_succ']
        exact G6
      case measure => simp [intOf]; omega
    · have hkn : k = n := by omega
      subst hkn
      have hz := E16.out
      by_cases hm : (k : Int) < mm
      · have b1 : decide ((k : Int) < mm) = true := by simpa using hm
        have b2 : decide ((k : Int) < 16) = false := by simp; omega
        clear hz
        go_wp2_with fail
        refine bodyPost_ret (v := .agg #[.slice ra k rc, .slice na nn nc, .int .i64 M]) (by simp [results, Try.results15, go_sem, z0, z1, z2, fz]) rfl ?_
        have G6 := G.set3 (cs.length + 0) (app_idx _ _ 0) (.slice ra k rc) (.slice na nn nc) (.int .i64 M)
        rw [set_app] at G6
        rw [HLL.out]
        exact ⟨_, rfl, new_fin HLN.out G6⟩
      · have b1 : decide ((k : Int) < mm) = false := by simpa using hm
        clear hz
        go_wp2_with fail
        refine bodyPost_ret (v := .agg #[.slice ra k rc, .slice na nn nc, .int .i64 M]) (by simp [results, Try.results15, go_sem, z0, z1, z2, fz]) rfl ?_
        have G6 := G.set3 (cs.length + 0) (app_idx _ _ 0) (.slice ra k rc) (.slice na nn nc) (.int .i64 M)
        rw [set_app] at G6
        rw [HLL.out]
        exact ⟨_, rfl, new_fin HLN.out G6⟩

end Go.Proofs.Ytfjkmdhkalbpkaa
