/- The document's graph: a slot written. Condition: fewer than a thousand lists. -/
import Derived.Test.YtfjkmdhkalbpkaaRg7g
set_option linter.unusedVariables false
set_option linter.unusedSimpArgs false
namespace Go.Proofs.Ytfjkmdhkalbpkaa
open Go.ChangeShapes Go.WideShapes Go.ChangeAt Go.RowKit

theorem ownN_set (n0 : Nat) (e : TypeId) (v : Value) (xs : List Int) (j : Nat) (y : Int) : ownC n0 e 1 v xs.length ((xs.map (Value.int .i64)).set j (Value.int .i64 y)) = ownN n0 e .i64 v (xs.set j y) := by
  unfold ownN
  rw [List.length_set, List.map_set]

theorem rg_boxesN {w0 w : World} {cs : List (Chunk w0.heap.size)} (H : Has w0 w cs) (u v : Value) (m : Int) : Has w0 ((w.alloc (.cells #[u, v, .int .i64 m] 36)).alloc (.cells #[.slice none 0 0, .slice none 0 0, .int .i64 0] 36)) (cs ++ [rgT w.heap.size _ u v m, rgT (w.heap.size + 1) _ (.slice none 0 0) (.slice none 0 0) 0, ownN _ 3 .i64 (.slice none 0 0) []]) := by
  have h := (rg_boxes H u v m).ownNil 3 1
  rw [List.append_assoc] at h
  exact h

set_option maxRecDepth 100000 in
set_option maxHeartbeats 4000000 in
theorem Write_r {w0 w : World} {cs : List (Chunk w0.heap.size)} (H : Has w0 w cs) (i : Nat) {X : RS} {G : PG} (hi : cs[i]? = some (rgC _ X G)) (ok : G.Ok) (hM : G.most < 1000000) (hR : G.roots.length < 1000) (hN : G.nodes.length < 1000) (m a s b : Int) :
    Calls Try.prog 18 #[X.v G.most, .int .i64 m, .int .i64 a, .int .i64 s, .int .i64 b] w fun e w' => RgR w0 cs i (G.write m a s b).1 (fun v => .tuple #[v, .bool (G.write m a s b).2]) e w' := by
  have A : RgAt w X G := H.get i hi
  obtain ⟨ra, rc, hrv⟩ := ll_val A.r
  obtain ⟨na, nc, hnv⟩ := ll_val A.n
  have HI := Lib.hid hi
  clear A hi
  obtain ⟨rv, rs, nv, ns⟩ := X
  dsimp only at hrv hnv
  subst hrv hnv
  unfold RS.v
  have K := rg_boxesN H (.slice ra rs.length rc) (.slice na ns.length nc) G.most
  have CR := Has_r K i (app_old HI.out) ok hN m a s
  cases hs : G.slot m a s with
  | none =>
    have W : G.write m a s b = (G, false) := by unfold PG.write; rw [hs]
    rw [W]
    rw [hs] at CR
    have HC := Lib.hid CR
    clear CR hs W
    unfold RS.v at HC
    go_enter Try.func18, Try.ntmps18
    go_wp2_with fail
    refine HC.out.mono ?_
    rintro e w1 ⟨rfl, q⟩
    have K1 := K.up q
    obtain ⟨x0, x1, x2, fx⟩ := row3 (K1.get _ (app_idx _ _ 0))
    obtain ⟨z0, z1, z2, fz⟩ := row3 (K1.get _ (app_idx _ _ 1))
    clear q K
    go_wp2_with fail
    refine bodyPost_ret (v := .tuple #[.agg #[.slice ra rs.length rc, .slice na ns.length nc, .int .i64 G.most], .bool false]) (by simp [results, Try.results18, go_sem, z0, z1, z2, fz]) rfl ?_
    exact RgR.same3 K1 HI.out (fun v => .tuple #[v, .bool false]) _ _ _
  | some p =>
    obtain ⟨v, y⟩ := p
    rw [hs] at CR
    have HC := Lib.hid CR
    unfold RS.v at HC
    clear CR
    have CH := fun (w1 : World) (q : Below _ _ w1) => Root_r (K.up (w' := w1) q) i (app_old HI.out) m b
    unfold RS.v at CH
    have HH := Lib.hid CH
    clear CH
    cases hb : G.root m b with
    | none =>
      have W : G.write m a s b = (G, false) := by unfold PG.write; rw [hs]; dsimp only; rw [hb]
      rw [W]
      have e1 : rootI G m b = -1 := by unfold rootI; rw [hb]; rfl
      rw [e1] at HH
      clear hs hb W e1
      go_enter Try.func18, Try.ntmps18
      go_wp2_with fail
      refine HC.out.mono ?_
      rintro e w1 ⟨rfl, q⟩
      have K1 := K.up q
      have C1 := HH.out w1 q
      obtain ⟨x0, x1, x2, fx⟩ := row3 (K1.get _ (app_idx _ _ 0))
      clear q K
      go_wp2_with fail
      refine C1.mono ?_
      rintro e w2 ⟨rfl, q⟩
      have K2 := K1.up q
      clear C1 K1 q x0 x1 x2 fx
      obtain ⟨x0, x1, x2, fx⟩ := row3 (K2.get _ (app_idx _ _ 0))
      obtain ⟨z0, z1, z2, fz⟩ := row3 (K2.get _ (app_idx _ _ 1))
      go_wp2_with fail
      refine bodyPost_ret (v := .tuple #[.agg #[.slice ra rs.length rc, .slice na ns.length nc, .int .i64 G.most], .bool false]) (by simp [results, Try.results18, go_sem, z0, z1, z2, fz]) rfl ?_
      exact RgR.same3 K2 HI.out (fun v => .tuple #[v, .bool false]) _ _ _
    | some x =>
      obtain ⟨q, j, l2, hv, rfl, hq, hj, hri, -⟩ := slot_someR ok hs
      have W : G.write m a j b = (G.put ((q : Int) + 1) j x, true) := by unfold PG.write; rw [hs]; dsimp only; rw [hb, hv]
      rw [W]
      have e1 : rootI G m b = x := by unfold rootI; rw [hb]; rfl
      have hx0 : decide (x < 0) = false := by have := (PG.root_bd ok hb).1; simp; omega
      rw [e1] at HH
      have A0 : RgAt w _ G := H.get i HI.out
      have hql : q < ns.length := by rw [← rg_nlen A0]; exact (List.getElem?_eq_some_iff.1 hq).1
      have HQ0 := Lib.hid hq
      rw [rg_nodes A0] at hq
      have hqb : (q : Int) < 1000 := by have := rg_nlen A0; simp only at this; omega
      have hqi : (q : Int) < (ns.length : Int) := by omega
      have hji : (j : Int) < (l2.length : Int) := by have := (List.getElem?_eq_some_iff.1 hj).1; omega
      have hl64 : l2.length ≤ 64 := ok.nl _ (List.mem_of_getElem? HQ0.out)
      have hw1 : IntKind.i64.wrap ((q : Int) + 1 - 1) = (q : Int) := by rw [show (q : Int) + 1 - 1 = (q : Int) by omega]; exact wrapi64_id _ (by omega) (by omega)
      have hw2 : IntKind.i64.wrap (q : Int) = (q : Int) := wrapi64_id _ (by omega) (by omega)
      have hq0 : (0 : Int) ≤ (q : Int) := by omega
      have hj0 : (0 : Int) ≤ (j : Int) := by omega
      have HQ := Lib.hid hq
      have HNN : Hid (ns.length < 1000000) := Lib.hid (by have := rg_nlen A0; simp only at this; omega)
      have HRI := Lib.hid hri
      have HRB := Lib.hid e1
      clear hb hs W hq hj hri A0 e1 hv
      go_enter Try.func18, Try.ntmps18
      go_wp2_with fail
      refine HC.out.mono ?_
      rintro e w1 ⟨rfl, qq⟩
      have K1 := K.up qq
      have C1 := HH.out w1 qq
      obtain ⟨x0, x1, x2, fx⟩ := row3 (K1.get _ (app_idx _ _ 0))
      clear qq K
      go_wp2_with fail
      refine C1.mono ?_
      rintro e w2 ⟨rfl, qq⟩
      have K2 := K1.up qq
      clear C1 K1 qq x0 x1 x2 fx
      obtain ⟨x0, x1, x2, fx⟩ := row3 (K2.get _ (app_idx _ _ 0))
      go_wp2_with fail
      have C4 := Root_r K2 i (app_old HI.out) m a
      unfold RS.v at C4
      rw [HRI.out] at C4
      refine C4.mono ?_
      rintro e w3 ⟨rfl, qq⟩
      have K3 := K2.up qq
      clear C4 K2 qq x0 x1 x2 fx
      obtain ⟨x0, x1, x2, fx⟩ := row3 (K3.get _ (app_idx _ _ 0))
      obtain ⟨B, hB⟩ : ∃ B, B = w.heap.size := ⟨_, rfl⟩
      rw [← hB] at K3 x0 x1 x2 fx ⊢
      clear hB
      have A3 : RgAt w3 _ G := K3.get i (app_old HI.out)
      obtain ⟨nb, off, c, la, lc, hv, hps, hkl, hcell, hrd⟩ := ll_at A3.n HQ.out
      dsimp only at hv
      simp only [Value.slice.injEq] at hv
      obtain ⟨rfl, -, rfl⟩ := hv
      have HPS := Lib.hid hps
      have HRD := Lib.hid hrd
      clear hkl A3 hps hrd
      go_upto_region 7 with (at_builtin; refine wpl_appRd K3 (cs.length + 2) rfl (.tmp 34) (.tmp 40) rfl (app_idx _ _ 2) rfl rfl HRD.out (by simp; omega) ?_; intro v4 w4 G3; rw [set_app] at G3)
      have G4 : Has w0 w4 (cs ++ [rgT B _ (.slice ra rs.length rc) (.slice (some ⟨nb, off, none⟩) ns.length nc) G.most, rgT (B + 1) _ (.slice none 0 0) (.slice none 0 0) 0, ownN _ 3 .i64 v4 l2]) := G3
      obtain ⟨xa, xc, rfl⟩ := own_is (G4.get _ (app_idx _ _ 2))
      clear G3 K3 x0 x1 x2 fx hcell
      obtain ⟨x0, x1, x2, fx⟩ := row3 (G4.get _ (app_idx _ _ 0))
      go_wp2_with fail
      have C5 := Root_r G4 i (app_old HI.out) m b
      unfold RS.v at C5
      rw [HRB.out] at C5
      refine C5.mono ?_
      rintro e w5 ⟨rfl, qq⟩
      have K5 := G4.up qq
      clear C5 G4 qq x0 x1 x2 fx
      obtain ⟨x0, x1, x2, fx⟩ := row3 (K5.get _ (app_idx _ _ 0))
      obtain ⟨yg, yo, hh, -, -, -, ycell, yfr⟩ := own_atV (n := l2.length) (K5.get _ (app_idx _ _ 2)) (by omega)
      cases hh
      have y1 := ycell j (.int .i64 (l2[j]'(by omega))) (by simp)
      have y2 := yfr (yo + j)
      clear ycell yfr
      go_upto_region 8 with fail
      have G6 := K5.ownSet (cs.length + 2) (app_idx _ _ 2) j (.int .i64 x) (by omega)
      rw [set_app] at G6
      have G7 : Has w0 (w5.setCell ⟨yg, yo + j, none⟩ (.int .i64 x)) (cs ++ [rgT B _ (.slice ra rs.length rc) (.slice (some ⟨nb, off, none⟩) ns.length nc) G.most, rgT (B + 1) _ (.slice none 0 0) (.slice none 0 0) 0, ownN _ 3 .i64 (.slice (some ⟨yg, yo, none⟩) l2.length xc) (l2.set j x)]) := by
        rw [← ownN_set]; exact G6
      obtain ⟨W, HW, eW⟩ := G7.name
      rw [← eW.out]
      clear eW G6 G7 K5 x0 x1 x2 fx y1 y2
      obtain ⟨x0, x1, x2, fx⟩ := row3 (HW.get _ (app_idx _ _ 0))
      have LLH : Hid (∀ (wq : World) (cq : List (Chunk w0.heap.size)), Has w0 wq (cs ++ cq) → LL wq (.slice (some ⟨nb, off, none⟩) ns.length nc) ns) := Lib.hid (fun wq cq Hq => (Hq.get i (app_old HI.out) : RgAt wq _ G).n)
      have hnn := HNN.out
      obtain ⟨LN, hLN⟩ : ∃ LN, LN = l2.length := ⟨_, rfl⟩
      have HLN : Hid (LN = (l2.set j x).length) := Lib.hid (by rw [hLN, List.length_set])
      rw [← hLN] at HW ⊢
      clear hLN hx0 HRB HRI HC HH HRD hji hl64
      go_region_held3 (fun w' => w'.cell? ⟨B, 0, none⟩ = some (.slice ra rs.length rc) ∧ w'.cell? ⟨B, 1, none⟩ = some (.slice (some ⟨nb, off, none⟩) ns.length nc) ∧ w'.cell? ⟨B, 2, none⟩ = some (.int .i64 G.most)) (refine ⟨?_, ?_, ?_⟩ <;> (first | (with_reducible assumption) | (simp only [cell_drewN7, cell_drew7]; with_reducible assumption) | ((try simp only [cell_drewN7, cell_drew7]); (repeat (with_reducible refine set_cellb7 _ ?_ (by omega))); (first | (with_reducible assumption) | (simp only [cell_drewN7, cell_drew7]; with_reducible assumption))))) (first | (go_at_call 37; refine (with_r (HW.drewN _) (LLH.out _ _ (HW.drewN _)) q hql hnn (some ⟨yg, yo, none⟩) LN xc).mono ?_; rintro e w7 ⟨ov, rfl, G8⟩; rw [List.append_assoc] at G8; obtain ⟨y0, y1, y2, fy⟩ := row3 (G8.get _ (app_idx _ _ 0)); obtain ⟨u0, u1, u2, fu⟩ := row3 (G8.get _ (app_idx _ _ 1)); obtain ⟨oa, oc, rfl⟩ := own_is (G8.get _ (app_idx _ _ 3))))
      all_goals
        go_wp2_with fail
        refine bodyPost_ret (v := .tuple #[.agg #[.slice ra rs.length rc, .slice oa ns.length oc, .int .i64 G.most], .bool true]) (by simp [results, Try.results18, go_sem, u0, u1, u2, fu]) rfl ?_
        have G9 := G8.set3 (cs.length + 1) (app_idx _ _ 1) (.slice ra rs.length rc) (.slice oa ns.length oc) (.int .i64 G.most)
        rw [set_app] at G9
        have hq6 := G9.get _ (app_idx _ _ 2)
        have hr6 := rd_own hq6
        have hc6 := own_capd hq6
        have GA := rg_nodes_to HI.out (·.set j x) HQ0.out rfl _ G9 3 rfl ⟨hr6, hc6⟩ (fun q hq => .inr ⟨2, _, rfl, hq⟩)
        refine ⟨⟨.slice ra rs.length rc, rs, .slice oa ns.length oc, ns.set q (.slice (some ⟨yg, yo, none⟩) LN xc, l2.set j x)⟩, rfl, ?_⟩
        unfold PG.put
        rw [show ((q : Int) + 1 - 1).toNat = q by omega, Int.toNat_natCast]
        exact GA

end Go.Proofs.Ytfjkmdhkalbpkaa
