/- The document's graph: a root more. Condition: fewer than a million in each list. -/
import Derived.Test.YtfjkmdhkalbpkaaRg7c
import Derived.Deep.RegionHeld3
set_option linter.unusedVariables false
set_option linter.unusedSimpArgs false
namespace Go.Proofs.Ytfjkmdhkalbpkaa
open Go.ChangeShapes Go.WideShapes Go.ChangeAt Go.RowKit

theorem cell_drewN7 (w : World) (n : Nat) (a : Addr) : (w.drewN n).cell? a = w.cell? a := rfl
abbrev rgT (b : Nat) (n0 : Nat) (u v : Value) (m : Int) : Chunk n0 := blkC n0 b #[u, v, .int .i64 m] 36

theorem set_cellb7 {w : World} {b o a p : Nat} {u : Value} (v : Value) (h : w.cell? ⟨b, o, none⟩ = some u) (hne : b ≠ a) : (w.setCell ⟨a, p, none⟩ v).cell? ⟨b, o, none⟩ = some u := by
  rw [World.cell?_of_block (w := w) (a := ⟨b, o, none⟩) (Below.heap_setCell _ _ _ _ hne)]; exact h

theorem Has.set3 {w0 w : World} {cs : List (Chunk w0.heap.size)} (H : Has w0 w cs) (i : Nat) {b : Nat} {v0 v1 v2 : Value} {T : TypeId} (hi : cs[i]? = some (blkC _ b #[v0, v1, v2] T)) (u0 u1 u2 : Value) :
    Has w0 (((w.setCell ⟨b, 0, none⟩ u0).setCell ⟨b, 1, none⟩ u1).setCell ⟨b, 2, none⟩ u2) (cs.set i (blkC _ b #[u0, u1, u2] T)) := by
  have a0 : w.heap[b]? = some (.cells #[v0, v1, v2] T (0, 0)) := H.get i hi
  have e0 : Upd [b] w w := Upd.refl _ _
  have a1 : (w.setCell ⟨b, 0, none⟩ u0).heap[b]? = some (.cells #[u0, v1, v2] T (0, 0)) := set_same a0 0 u0
  have e1 : Upd [b] w (w.setCell ⟨b, 0, none⟩ u0) := e0.setCell (p := ⟨b, 0, none⟩) (by simp) u0
  have a2 : ((w.setCell ⟨b, 0, none⟩ u0).setCell ⟨b, 1, none⟩ u1).heap[b]? = some (.cells #[u0, u1, v2] T (0, 0)) := set_same a1 1 u1
  have e2 : Upd [b] w ((w.setCell ⟨b, 0, none⟩ u0).setCell ⟨b, 1, none⟩ u1) := e1.setCell (p := ⟨b, 1, none⟩) (by simp) u1
  exact H.blkTo i hi (e2.setCell (p := ⟨b, 2, none⟩) (by simp) u2) (set_same a2 2 u2)

set_option maxRecDepth 100000 in
set_option maxHeartbeats 4000000 in
theorem Push_r {w0 w : World} {cs : List (Chunk w0.heap.size)} (H : Has w0 w cs) (i : Nat) {X : RS} {G : PG} (hi : cs[i]? = some (rgC _ X G)) (hR : G.roots.length < 1000) (k : Nat) (l : List Int) (v : Int) (hl : G.roots[k]? = some l) (hn : l.length < 1000000) :
    Calls Try.prog 34 #[X.v G.most, .int .i64 k, .int .i64 v] w fun e w' => RgR w0 cs i (G.push k v) id e w' := by
  have A : RgAt w X G := H.get i hi
  have HI := Lib.hid hi
  have HL := Lib.hid hl
  have hrl := rg_rlen A
  have hl' := hl
  rw [rg_roots A] at hl'
  obtain ⟨b, off, c, la, lc, hv, hps, hkl, hcell, hrd⟩ := ll_at A.r hl'
  obtain ⟨nna, nnc, hnv⟩ := ll_val A.n
  have hbl : b < w.heap.size := rg_size H hi b (by simp [llB, hv, Value.ownBlock])
  have hkl' : (k : Int) < (X.rs.length : Int) := by omega
  have hrn : X.rs.length < 1000000 := by omega
  have K : Has w0 ((w.alloc (.cells #[X.rv, X.nv, .int .i64 G.most] 36)).alloc (.cells #[.slice none 0 0, .slice none 0 0, .int .i64 0] 36)) (cs ++ [rgT w.heap.size _ X.rv X.nv G.most, rgT (w.heap.size + 1) _ (.slice none 0 0) (.slice none 0 0) 0, ownN _ 3 .i64 (.slice none 0 0) []]) := by
    have h := ((H.blkNew #[X.rv, X.nv, .int .i64 G.most] 36).blkNew #[.slice none 0 0, .slice none 0 0, .int .i64 0] 36).ownNil 3 1
    rw [show (w.alloc (.cells #[X.rv, X.nv, .int .i64 G.most] 36)).heap.size = w.heap.size + 1 by simp] at h
    rw [List.append_assoc, List.append_assoc] at h
    exact h
  have A2 : RgAt _ X G := K.get i (app_old hi)
  have hll2 : LL _ X.rv X.rs := A2.r
  have hrd2 := Lib.hid (hll2.2 k _ hps).1
  unfold RS.v
  clear A A2 hll2 hl hl' hi hrd
  have HV := Lib.hid hv
  obtain ⟨rv, rs, nv, ns⟩ := X
  dsimp only at hv hnv hkl hkl' hrn hrl K hps HI HV ⊢
  subst hv
  subst hnv
  have HPS := Lib.hid hps
  clear hps
  go_enter Try.func34, Try.ntmps34
  go_upto_region 3 with (at_builtin; refine wpl_appRd K (cs.length + 2) rfl (.tmp 8) (.tmp 13) rfl (app_idx _ _ 2) rfl rfl hrd2.out (by simp; omega) ?_; intro v1 w1 G1; rw [set_app] at G1)
  have G2 : Has w0 w1 (cs ++ [rgT w.heap.size _ (.slice (some ⟨b, off, none⟩) rs.length c) (.slice nna ns.length nnc) G.most, rgT (w.heap.size + 1) _ (.slice none 0 0) (.slice none 0 0) 0, ownN _ 3 .i64 v1 l]) := G1
  have hl6 : l.length + 1 < 1000000000000 := by omega
  clear G1 K
  go_upto_region 4 with (at_builtin; refine wpl_app G2 (cs.length + 2) rfl (.tmp 15) (.tmp 17) rfl el_i7 rfl (by decide) (by decide) (app_idx _ _ 2) rfl [.int .i64 v] rfl rfl (by simp [Value.oneCell']) hl6 ?_; intro v2 w2 G3; rw [ownN_app, set_app] at G3)
  have G4 : Has w0 w2 (cs ++ [rgT w.heap.size _ (.slice (some ⟨b, off, none⟩) rs.length c) (.slice nna ns.length nnc) G.most, rgT (w.heap.size + 1) _ (.slice none 0 0) (.slice none 0 0) 0, ownN _ 3 .i64 v2 (l ++ [v])]) := G3
  obtain ⟨xa, xc, rfl⟩ := own_is (G4.get _ (app_idx _ _ 2))
  clear G2 G3
  obtain ⟨B, hB⟩ : ∃ B, B = w.heap.size := ⟨_, rfl⟩
  rw [← hB] at G4 ⊢
  clear hB
  obtain ⟨x0, x1, x2, fx⟩ := row3 (G4.get _ (app_idx _ _ 0))
  obtain ⟨z0, z1, z2, fz⟩ := row3 (G4.get _ (app_idx _ _ 1))
  obtain ⟨LN, hLN⟩ : ∃ LN, LN = (l ++ [v]).length := ⟨_, rfl⟩
  have HLN := Lib.hid hLN
  rw [← hLN]
  clear hLN
  have HD := G4.drewN 1
  have LLH : Hid (∀ (wq : World) (cq : List (Chunk w0.heap.size)), Has w0 wq (cs ++ cq) → LL wq (.slice (some ⟨b, off, none⟩) rs.length c) rs) := Lib.hid (fun wq cq Hq => (Hq.get i (app_old HI.out) : RgAt wq _ G).r)
  go_region_held3 (fun w' => w'.cell? ⟨B, 0, none⟩ = some (.slice (some ⟨b, off, none⟩) rs.length c) ∧ w'.cell? ⟨B, 1, none⟩ = some (.slice nna ns.length nnc) ∧ w'.cell? ⟨B, 2, none⟩ = some (.int .i64 G.most)) (refine ⟨?_, ?_, ?_⟩ <;> (first | (with_reducible assumption) | (simp only [cell_drewN7, cell_drew7]; with_reducible assumption) | ((try simp only [cell_drewN7, cell_drew7]); (repeat (with_reducible refine set_cellb7 _ ?_ (by omega))); (first | (with_reducible assumption) | (simp only [cell_drewN7, cell_drew7]; with_reducible assumption))))) (first | (go_at_call 37; refine (with_r (G4.drewN _) (LLH.out _ _ (G4.drewN _)) k hkl hrn xa LN xc).mono ?_; rintro e w3 ⟨ov, rfl, G5⟩; rw [List.append_assoc] at G5; obtain ⟨y0, y1, y2, fy⟩ := row3 (G5.get _ (app_idx _ _ 0)); obtain ⟨u0, u1, u2, fu⟩ := row3 (G5.get _ (app_idx _ _ 1)); obtain ⟨oa, oc, rfl⟩ := own_is (G5.get _ (app_idx _ _ 3))))
  all_goals
    go_wp2_with fail
    refine bodyPost_ret (v := .agg #[.slice oa rs.length oc, .slice nna ns.length nnc, .int .i64 G.most]) (by simp [results, Try.results34, go_sem, u0, u1, u2, fu]) rfl ?_
    have G6 := G5.set3 (cs.length + 1) (app_idx _ _ 1) (.slice oa rs.length oc) (.slice nna ns.length nnc) (.int .i64 G.most)
    rw [set_app] at G6
    have hq6 := G6.get _ (app_idx _ _ 2)
    have hr6 := rd_own hq6
    have hc6 := own_capd hq6
    rw [← HLN.out] at hr6 hc6
    have G7 := rg_roots_to HI.out (· ++ [v]) HL.out rfl _ G6 3 rfl ⟨hr6, hc6⟩ (fun q hq => .inr ⟨2, _, rfl, by rw [HLN.out] at hq; exact hq⟩)
    refine ⟨⟨.slice oa rs.length oc, rs.set k (.slice xa LN xc, l ++ [v]), .slice nna ns.length nnc, ns⟩, rfl, ?_⟩
    unfold PG.push
    rw [Int.toNat_natCast]
    exact G7

end Go.Proofs.Ytfjkmdhkalbpkaa
