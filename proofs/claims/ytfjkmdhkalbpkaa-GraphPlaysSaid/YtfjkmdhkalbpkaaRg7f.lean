/- The document's graph: a slot read. Condition: fewer than a thousand lists. -/
import Derived.Test.YtfjkmdhkalbpkaaRg7e
set_option linter.unusedVariables false
set_option linter.unusedSimpArgs false
namespace Go.Proofs.Ytfjkmdhkalbpkaa
open Go.ChangeShapes Go.WideShapes Go.ChangeAt Go.RowKit

theorem RgR.end3 {w0 w : World} {cs ds : List (Chunk w0.heap.size)} {i : Nat} {G : PG} {c0 : Chunk w0.heap.size} {b : Nat} {v0 v1 : Value} {ra na : Option Addr} {rn rc nn nc : Nat} {rs ns : List (Value × List Int)}
    (H : Has w0 w (cs.set i (rgC _ ⟨.slice ra rn rc, rs, .slice na nn nc, ns⟩ G) ++ (c0 :: rgT b _ v0 v1 0 :: ds))) (f : Value → Value) (u0 u1 u2 : Value) :
    RgR w0 cs i G f (.returned (f (.agg #[.slice ra rn rc, .slice na nn nc, .int .i64 G.most]))) (((w.setCell ⟨b, 0, none⟩ u0).setCell ⟨b, 1, none⟩ u1).setCell ⟨b, 2, none⟩ u2) :=
  ⟨_, rfl, by
    have h := H.set3 ((cs.set i (rgC _ ⟨.slice ra rn rc, rs, .slice na nn nc, ns⟩ G)).length + 1) (app_idx _ _ 1) u0 u1 u2
    rw [set_app] at h
    exact h.front7⟩

theorem slot_someR {G : PG} (ok : G.Ok) {m a s v y : Int} (h : G.slot m a s = some (v, y)) : ∃ (q j : Nat) (l : List Int), v = (q : Int) + 1 ∧ s = (j : Int) ∧ G.nodes[q]? = some l ∧ l[j]? = some y ∧ rootI G m a = (q : Int) + 1 ∧ G.root m a = some ((q : Int) + 1) := by
  unfold PG.slot at h
  cases hr : G.root m a with
  | none => rw [hr] at h; cases h
  | some u =>
    rw [hr] at h
    dsimp only at h
    have ub := PG.root_bd ok hr
    by_cases h0 : u = 0
    · rw [if_pos h0] at h; cases h
    · rw [if_neg h0] at h
      obtain ⟨q, rfl⟩ : ∃ q : Nat, u = (q : Int) + 1 := ⟨(u - 1).toNat, by omega⟩
      have hq : q < G.nodes.length := by omega
      have hs : G.slots ((q : Int) + 1) = G.nodes[q] := by
        unfold PG.slots
        rw [show (q : Int) + 1 - 1 = (q : Int) by omega, iget_nat, List.getElem?_eq_getElem hq]
        rfl
      rw [hs] at h
      cases hy : iget G.nodes[q] s with
      | none => rw [hy] at h; cases h
      | some z =>
        rw [hy] at h
        simp only [Option.map_some, Option.some.injEq, Prod.mk.injEq] at h
        obtain ⟨rfl, rfl⟩ := h
        obtain ⟨j, rfl, hj⟩ := iget_some hy
        exact ⟨q, j, _, rfl, rfl, List.getElem?_eq_getElem hq, hj, by unfold rootI; rw [hr]; rfl, rfl⟩

set_option maxRecDepth 100000 in
set_option maxHeartbeats 4000000 in
theorem Read_r {w0 w : World} {cs : List (Chunk w0.heap.size)} (H : Has w0 w cs) (i : Nat) {X : RS} {G : PG} (hi : cs[i]? = some (rgC _ X G)) (ok : G.Ok) (hM : G.most < 1000000) (hR : G.roots.length < 1000) (hN : G.nodes.length < 1000) (m a s : Int) :
    Calls Try.prog 17 #[X.v G.most, .int .i64 m, .int .i64 a, .int .i64 s] w fun e w' => RgR w0 cs i (G.read m a s).1 (fun v => .tuple #[v, .int .i64 (G.read m a s).2.1, .bool (G.read m a s).2.2]) e w' := by
  have A : RgAt w X G := H.get i hi
  obtain ⟨ra, rc, hrv⟩ := ll_val A.r
  obtain ⟨na, nc, hnv⟩ := ll_val A.n
  have HI := Lib.hid hi
  clear A hi
  obtain ⟨rv, rs, nv, ns⟩ := X
  dsimp only at hrv hnv
  subst hrv hnv
  unfold RS.v
  have K := rg_boxes H (.slice ra rs.length rc) (.slice na ns.length nc) G.most
  have CR := Room_r K i (app_old HI.out) m
  cases hb : G.room m with
  | false =>
    have READ : G.read m a s = (G, 0, false) := by
      unfold PG.read
      cases G.slot m a s with
      | none => rfl
      | some p => simp [hb]
    rw [READ]
    rw [hb] at CR
    have HC := Lib.hid CR
    clear CR hb READ
    unfold RS.v at HC
    go_enter Try.func17, Try.ntmps17
    go_wp2_with fail
    refine HC.out.mono ?_
    rintro e w1 ⟨rfl, q⟩
    have K1 := K.up q
    obtain ⟨x0, x1, x2, fx⟩ := row3 (K1.get _ (app_idx _ _ 0))
    obtain ⟨z0, z1, z2, fz⟩ := row3 (K1.get _ (app_idx _ _ 1))
    clear q K
    go_wp2_with fail
    refine bodyPost_ret (v := .tuple #[.agg #[.slice ra rs.length rc, .slice na ns.length nc, .int .i64 G.most], .int .i64 0, .bool false]) (by simp [results, Try.results17, go_sem, z0, z1, z2, fz]) rfl ?_
    exact RgR.same3 K1 HI.out (fun v => .tuple #[v, .int .i64 0, .bool false]) _ _ _
  | true =>
    have CH := fun (w1 : World) (q : Below _ _ w1) => Has_r (K.up (w' := w1) q) i (app_old HI.out) ok hN m a s
    rw [hb] at CR
    obtain ⟨l, hL, hlt⟩ := PG.room_some hb
    obtain ⟨k, rfl, hk⟩ := iget_some hL
    have HC := Lib.hid CR
    have HK := Lib.hid hk
    have hlM : l.length < 1000000 := by omega
    unfold RS.v at HC CH
    have HH := Lib.hid CH
    clear CR CH hL hk hlt
    cases hs : G.slot k a s with
    | none =>
      have READ : G.read k a s = (G, 0, false) := by
        unfold PG.read
        rw [hs]
      rw [READ]
      rw [hs] at HH
      clear hb hs READ
      go_enter Try.func17, Try.ntmps17
      go_wp2_with fail
      refine HC.out.mono ?_
      rintro e w1 ⟨rfl, q⟩
      have K1 := K.up q
      have C1 := HH.out w1 q
      obtain ⟨x0, x1, x2, fx⟩ := row3 (K1.get _ (app_idx _ _ 0))
      obtain ⟨z0, z1, z2, fz⟩ := row3 (K1.get _ (app_idx _ _ 1))
      clear q K
      go_wp2_with fail
      refine C1.mono ?_
      rintro e w2 ⟨rfl, q⟩
      have K2 := K1.up q
      clear C1 K1 q x0 x1 x2 fx z0 z1 z2 fz
      obtain ⟨x0, x1, x2, fx⟩ := row3 (K2.get _ (app_idx _ _ 0))
      obtain ⟨z0, z1, z2, fz⟩ := row3 (K2.get _ (app_idx _ _ 1))
      go_wp2_with fail
      refine bodyPost_ret (v := .tuple #[.agg #[.slice ra rs.length rc, .slice na ns.length nc, .int .i64 G.most], .int .i64 0, .bool false]) (by simp [results, Try.results17, go_sem, z0, z1, z2, fz]) rfl ?_
      exact RgR.same3 K2 HI.out (fun v => .tuple #[v, .int .i64 0, .bool false]) _ _ _
    | some p =>
      obtain ⟨v, y⟩ := p
      have READ : G.read k a s = (G.push k y, y, true) := by
        unfold PG.read
        rw [hs]
        simp [hb]
      rw [READ]
      rw [hs] at HH
      obtain ⟨q, j, l2, -, rfl, hq, hj, hri, -⟩ := slot_someR ok hs
      have A0 : RgAt w _ G := H.get i HI.out
      have hql : q < ns.length := by rw [← rg_nlen A0]; exact (List.getElem?_eq_some_iff.1 hq).1
      rw [rg_nodes A0] at hq
      have hqb : (q : Int) < 1000 := by have := rg_nlen A0; simp only at this; omega
      have hqi : (q : Int) < (ns.length : Int) := by omega
      have hji : (j : Int) < (l2.length : Int) := by have := (List.getElem?_eq_some_iff.1 hj).1; omega
      have hw1 : IntKind.i64.wrap ((q : Int) + 1 - 1) = (q : Int) := by rw [show (q : Int) + 1 - 1 = (q : Int) by omega]; exact wrapi64_id _ (by omega) (by omega)
      have hw2 : IntKind.i64.wrap (q : Int) = (q : Int) := wrapi64_id _ (by omega) (by omega)
      have hq0 : (0 : Int) ≤ (q : Int) := by omega
      have hj0 : (0 : Int) ≤ (j : Int) := by omega
      have HQ := Lib.hid hq
      have HJ := Lib.hid hj
      have HRI := Lib.hid hri
      clear hb hs READ hq hj hri A0 hql
      go_enter Try.func17, Try.ntmps17
      go_wp2_with fail
      refine HC.out.mono ?_
      rintro e w1 ⟨rfl, qq⟩
      have K1 := K.up qq
      have C1 := HH.out w1 qq
      obtain ⟨x0, x1, x2, fx⟩ := row3 (K1.get _ (app_idx _ _ 0))
      obtain ⟨z0, z1, z2, fz⟩ := row3 (K1.get _ (app_idx _ _ 1))
      clear qq K
      go_wp2_with fail
      refine C1.mono ?_
      rintro e w2 ⟨rfl, qq⟩
      have K2 := K1.up qq
      clear C1 K1 qq x0 x1 x2 fx z0 z1 z2 fz
      obtain ⟨x0, x1, x2, fx⟩ := row3 (K2.get _ (app_idx _ _ 0))
      obtain ⟨B, hB⟩ : ∃ B, B = w.heap.size := ⟨_, rfl⟩
      rw [← hB] at K2 x0 x1 x2 fx ⊢
      clear hB
      have A2 : RgAt w2 _ G := K2.get i (app_old HI.out)
      obtain ⟨b, off, c, la, lc, hv, -, hkl, hcell, hrd⟩ := ll_at A2.n HQ.out
      dsimp only at hv
      simp only [Value.slice.injEq] at hv
      obtain ⟨rfl, -, rfl⟩ := hv
      rcases hrd with ⟨_, h0⟩ | ⟨g2, off2, c2, hv2, hc2⟩
      · rw [h0] at hji; simp at hji; omega
      simp only [Value.slice.injEq] at hv2
      obtain ⟨rfl, -, rfl⟩ := hv2
      have hcell2 := hc2 j y HJ.out
      have hbl : b < w2.heap.size := rg_size K2 (app_old HI.out) b (by simp [llB, Value.ownBlock])
      have hgl : g2 < w2.heap.size := by
        rcases Nat.lt_or_ge g2 w2.heap.size with q | q
        · exact q
        · simp [World.cell?, Array.getElem?_eq_none q] at hcell2
      have HF := Lib.hid (fun (d : Nat) (w3 : World) (h : Below (w2.drewN d).heap.size (w2.drewN d) w3) => (show w3.cell? ⟨b, off + q, none⟩ = _ ∧ w3.cell? ⟨g2, off2 + j, none⟩ = _ from ⟨(h.cell (p := ⟨b, off + q, none⟩) (by simpa using hbl)).trans (by simpa using hcell), (h.cell (p := ⟨g2, off2 + j, none⟩) (by simpa using hgl)).trans (by simpa using hcell2)⟩))
      have C4 := fun d => Root_r (K2.drewN d) i (app_old HI.out) k a
      unfold RS.v at C4
      dsimp only at C4
      rw [HRI.out] at C4
      have HC4 := Lib.hid C4
      clear hkl hc2 A2 C4
      go_wp2_with fail
      go_region_held3 (fun w' => w'.cell? ⟨B, 0, none⟩ = some (.slice ra rs.length rc) ∧ w'.cell? ⟨B, 1, none⟩ = some (.slice (some ⟨b, off, none⟩) ns.length nc) ∧ w'.cell? ⟨B, 2, none⟩ = some (.int .i64 G.most) ∧ w'.cell? ⟨b, off + q, none⟩ = some (.slice (some ⟨g2, off2, none⟩) l2.length lc) ∧ w'.cell? ⟨g2, off2 + j, none⟩ = some (.int .i64 y)) (refine ⟨?_, ?_, ?_, ?_, ?_⟩ <;> (first | (with_reducible assumption) | (simp only [cell_drewN7, cell_drew7]; with_reducible assumption))) (first | (go_at_call 36; refine (HC4.out _).mono ?_; rintro e w3 ⟨rfl, q3⟩; have K3 := (K2.drewN _).up q3; obtain ⟨y0, y1, y2, fy⟩ := row3 (K3.get _ (app_idx _ _ 0)); obtain ⟨p1, p2⟩ := HF.out _ _ q3))
      all_goals
        go_wp2_with fail
        have C5 := Push_r K3 i (app_old HI.out) hR k l y HK.out hlM
        unfold RS.v at C5
        dsimp only at C5
        refine C5.mono ?_
        intro e w4 R4
        obtain ⟨pa, pn, pc, ps, qa, qn, qc, qs, rfl, G4⟩ := R4.ex (by have := (List.getElem?_eq_some_iff.1 HI.out).1; simp; omega)
        rw [List.set_append_left _ _ (List.getElem?_eq_some_iff.1 HI.out).1] at G4
        obtain ⟨u0, u1, u2, fu⟩ := row3 (G4.get _ (app_idx _ _ 1))
        go_wp2_with fail
        refine bodyPost_ret (v := .tuple #[.agg #[.slice pa pn pc, .slice qa qn qc, .int .i64 (G.push k y).most], .int .i64 y, .bool true]) (by simp [results, Try.results17, go_sem, u0, u1, u2, fu]) rfl ?_
        exact RgR.end3 G4 (fun v => .tuple #[v, .int .i64 y, .bool true]) _ _ _

end Go.Proofs.Ytfjkmdhkalbpkaa
