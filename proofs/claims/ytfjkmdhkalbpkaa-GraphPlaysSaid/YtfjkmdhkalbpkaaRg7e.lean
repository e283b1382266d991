/- The document's graph: a root once more. Condition: fewer than a million in each list. -/
import Derived.Test.YtfjkmdhkalbpkaaRg7d
set_option linter.unusedVariables false
set_option linter.unusedSimpArgs false
namespace Go.Proofs.Ytfjkmdhkalbpkaa
open Go.ChangeShapes Go.WideShapes Go.ChangeAt Go.RowKit

theorem RgR.same {w0 w w' : World} {cs : List (Chunk w0.heap.size)} {i : Nat} {X : RS} {G : PG} (H : Has w0 w cs) (hi : cs[i]? = some (rgC _ X G)) (f : Value → Value) (b : Below w.heap.size w w') : RgR w0 cs i G f (.returned (f (X.v G.most))) w' :=
  ⟨X, rfl, by rw [set_same_list hi]; exact H.up b⟩

/-- The boxes of a function of the document's graph: its argument, and its result. -/
theorem rg_boxes {w0 w : World} {cs : List (Chunk w0.heap.size)} (H : Has w0 w cs) (u v : Value) (m : Int) : Has w0 ((w.alloc (.cells #[u, v, .int .i64 m] 36)).alloc (.cells #[.slice none 0 0, .slice none 0 0, .int .i64 0] 36)) (cs ++ [rgT w.heap.size _ u v m, rgT (w.heap.size + 1) _ (.slice none 0 0) (.slice none 0 0) 0]) := by
  have h := (H.blkNew #[u, v, .int .i64 m] 36).blkNew #[.slice none 0 0, .slice none 0 0, .int .i64 0] 36
  rw [show (w.alloc (.cells #[u, v, .int .i64 m] 36)).heap.size = w.heap.size + 1 by simp] at h
  rw [List.append_assoc] at h
  exact h

theorem RgR.ex {w0 : World} {cs : List (Chunk w0.heap.size)} {i : Nat} {G : PG} {f : Value → Value} {e : Ending} {w' : World} (hi : i < cs.length) (h : RgR w0 cs i G f e w') :
    ∃ ra rn rc rs na nn nc ns, e = .returned (f (.agg #[.slice ra rn rc, .slice na nn nc, .int .i64 G.most])) ∧ Has w0 w' (cs.set i (rgC _ ⟨.slice ra rn rc, rs, .slice na nn nc, ns⟩ G)) := by
  obtain ⟨X, rfl, K⟩ := h
  have A : RgAt w' X G := K.get i (List.getElem?_set_self hi)
  obtain ⟨ra, rc, hr⟩ := ll_val A.r
  obtain ⟨na, nc, hn⟩ := ll_val A.n
  obtain ⟨rv, rs, nv, ns⟩ := X
  dsimp only at hr hn
  subst hr hn
  exact ⟨_, _, _, rs, _, _, _, ns, rfl, K⟩

theorem RgR.front {w0 : World} {cs ds : List (Chunk w0.heap.size)} {i : Nat} {c : Chunk w0.heap.size} {G : PG} {f : Value → Value} {e : Ending} {w' : World} (hi : cs[i]? = some c) (h : RgR w0 (cs ++ ds) i G f e w') : RgR w0 cs i G f e w' := by
  obtain ⟨X, h1, h2⟩ := h
  rw [List.set_append_left _ _ (List.getElem?_eq_some_iff.1 hi).1] at h2
  exact ⟨X, h1, h2.front7⟩

theorem RgR.same3 {w0 w : World} {cs ds : List (Chunk w0.heap.size)} {i : Nat} {X : RS} {G : PG} {c0 : Chunk w0.heap.size} {b : Nat} {v0 v1 : Value} (H : Has w0 w (cs ++ (c0 :: rgT b _ v0 v1 0 :: ds))) (hi : cs[i]? = some (rgC _ X G)) (f : Value → Value) (u0 u1 u2 : Value) :
    RgR w0 cs i G f (.returned (f (X.v G.most))) (((w.setCell ⟨b, 0, none⟩ u0).setCell ⟨b, 1, none⟩ u1).setCell ⟨b, 2, none⟩ u2) :=
  ⟨X, rfl, by
    rw [set_same_list hi]
    have h := H.set3 (cs.length + 1) (app_idx _ _ 1) u0 u1 u2
    rw [set_app] at h
    exact h.front7⟩

set_option maxRecDepth 100000 in
set_option maxHeartbeats 4000000 in
theorem Dup_r {w0 w : World} {cs : List (Chunk w0.heap.size)} (H : Has w0 w cs) (i : Nat) {X : RS} {G : PG} (hi : cs[i]? = some (rgC _ X G)) (ok : G.Ok) (hM : G.most < 1000000) (hR : G.roots.length < 1000) (m a : Int) :
    Calls Try.prog 20 #[X.v G.most, .int .i64 m, .int .i64 a] w fun e w' => RgR w0 cs i (G.dup m a).1 (fun v => .tuple #[v, .bool (G.dup m a).2]) e w' := by
  have A : RgAt w X G := H.get i hi
  obtain ⟨ra, rc, hrv⟩ := ll_val A.r
  obtain ⟨na, nc, hnv⟩ := ll_val A.n
  have HI := Lib.hid hi
  clear A hi
  obtain ⟨rv, rs, nv, ns⟩ := X
  dsimp only at hrv hnv
  subst hrv hnv
  unfold RS.v
  have K := rg_boxes H (.slice ra rs.length rc) (.slice na ns.length nc) G.most
  have CR := Room_r K i (app_old HI.out) m
  have DUP : G.dup m a = if G.room m = true ∧ 0 ≤ rootI G m a then (G.push m (rootI G m a), true) else (G, false) := by
    unfold PG.dup rootI
    cases hr : G.root m a with
    | none => simp
    | some v =>
      have := (PG.root_bd ok hr).1
      cases hb : G.room m with
      | false => simp
      | true => simp [this]
  rw [DUP]
  cases hb : G.room m with
  | false =>
    rw [if_neg (by simp)]
    rw [hb] at CR
    have HC := Lib.hid CR
    clear CR hb DUP
    unfold RS.v at HC
    go_enter Try.func20, Try.ntmps20
    go_wp2_with fail
    refine HC.out.mono ?_
    rintro e w1 ⟨rfl, q⟩
    have K1 := K.up q
    obtain ⟨x0, x1, x2, fx⟩ := row3 (K1.get _ (app_idx _ _ 0))
    obtain ⟨z0, z1, z2, fz⟩ := row3 (K1.get _ (app_idx _ _ 1))
    clear q K
    go_wp2_with fail
    refine bodyPost_ret (v := .tuple #[.agg #[.slice ra rs.length rc, .slice na ns.length nc, .int .i64 G.most], .bool false]) (by simp [results, Try.results20, go_sem, z0, z1, z2, fz]) rfl ?_
    exact RgR.same3 K1 HI.out (fun v => .tuple #[v, .bool false]) _ _ _
  | true =>
    rw [hb] at CR
    obtain ⟨l, hL, hlt⟩ := PG.room_some hb
    obtain ⟨k, rfl, hk⟩ := iget_some hL
    have HC := Lib.hid CR
    have HK := Lib.hid hk
    have hlM : l.length < 1000000 := by omega
    clear CR hb DUP hL hk hlt
    unfold RS.v at HC
    obtain ⟨x, hx⟩ : ∃ x, x = rootI G k a := ⟨_, rfl⟩
    rw [← hx]
    have HX := Lib.hid hx
    clear hx
    by_cases hx0 : 0 ≤ x
    · rw [if_pos ⟨rfl, hx0⟩]
      have hx1 : decide (x < 0) = false := by simp; omega
      clear hx0
      go_enter Try.func20, Try.ntmps20
      go_wp2_with fail
      refine HC.out.mono ?_
      rintro e w1 ⟨rfl, q⟩
      have K1 := K.up q
      obtain ⟨x0, x1, x2, fx⟩ := row3 (K1.get _ (app_idx _ _ 0))
      obtain ⟨z0, z1, z2, fz⟩ := row3 (K1.get _ (app_idx _ _ 1))
      clear q K
      go_wp2_with fail
      have CR2 := Root_r K1 i (app_old HI.out) k a
      unfold RS.v at CR2
      rw [← HX.out] at CR2
      refine CR2.mono ?_
      rintro e w2 ⟨rfl, q⟩
      have K2 := K1.up q
      clear CR2 K1 q x0 x1 x2 fx z0 z1 z2 fz
      obtain ⟨x0, x1, x2, fx⟩ := row3 (K2.get _ (app_idx _ _ 0))
      obtain ⟨B, hB⟩ : ∃ B, B = w.heap.size := ⟨_, rfl⟩
      rw [← hB] at K2 x0 x1 x2 fx ⊢
      clear hB
      go_wp2_with fail
      go_region_held3 (fun w' => w'.cell? ⟨B, 0, none⟩ = some (.slice ra rs.length rc) ∧ w'.cell? ⟨B, 1, none⟩ = some (.slice na ns.length nc) ∧ w'.cell? ⟨B, 2, none⟩ = some (.int .i64 G.most)) (refine ⟨?_, ?_, ?_⟩ <;> (first | (with_reducible assumption) | (simp only [cell_drewN7, cell_drew7]; with_reducible assumption) | ((try simp only [cell_drewN7, cell_drew7]); (repeat (with_reducible refine set_cellb7 _ ?_ (by omega))); (first | (with_reducible assumption) | (simp only [cell_drewN7, cell_drew7]; with_reducible assumption))))) (first | (go_at_call 36; have C3 := fun d => Root_r (K2.drewN d) i (app_old HI.out) k a; unfold RS.v at C3; dsimp only at C3; rw [← HX.out] at C3; refine (C3 _).mono ?_; rintro e w3 ⟨rfl, q3⟩; have K3 := (K2.drewN _).up q3; obtain ⟨y0, y1, y2, fy⟩ := row3 (K3.get _ (app_idx _ _ 0))) | (go_at_call 34; have C4 := Push_r K3 i (app_old HI.out) hR k l x HK.out hlM; unfold RS.v at C4; dsimp only at C4; refine C4.mono ?_; intro e w4 R4; obtain ⟨pa, pn, pc, ps, qa, qn, qc, qs, rfl, G4⟩ := R4.ex (by have := (List.getElem?_eq_some_iff.1 HI.out).1; simp; omega); rw [List.set_append_left _ _ (List.getElem?_eq_some_iff.1 HI.out).1] at G4; obtain ⟨v0, v1, v2, fv⟩ := row3 (G4.get _ (app_idx _ _ 0)); obtain ⟨u0, u1, u2, fu⟩ := row3 (G4.get _ (app_idx _ _ 1))))
      all_goals
        go_wp2_with fail
        refine bodyPost_ret (v := .tuple #[.agg #[.slice pa pn pc, .slice qa qn qc, .int .i64 (G.push k x).most], .bool true]) (by simp [results, Try.results20, go_sem, u0, u1, u2, fu]) rfl ?_
        have G6 := G4.set3 ((cs.set i (rgC _ ⟨.slice pa pn pc, ps, .slice qa qn qc, qs⟩ (G.push k x))).length + 1) (app_idx _ _ 1) (.slice pa pn pc) (.slice qa qn qc) (.int .i64 (G.push k x).most)
        rw [set_app] at G6
        exact ⟨_, rfl, G6.front7⟩
    · rw [if_neg (by simp [hx0])]
      have hx1 : decide (x < 0) = true := by simp; omega
      clear hx0
      go_enter Try.func20, Try.ntmps20
      go_wp2_with fail
      refine HC.out.mono ?_
      rintro e w1 ⟨rfl, q⟩
      have K1 := K.up q
      obtain ⟨x0, x1, x2, fx⟩ := row3 (K1.get _ (app_idx _ _ 0))
      obtain ⟨z0, z1, z2, fz⟩ := row3 (K1.get _ (app_idx _ _ 1))
      clear q K
      go_wp2_with fail
      have CR2 := Root_r K1 i (app_old HI.out) k a
      unfold RS.v at CR2
      rw [← HX.out] at CR2
      refine CR2.mono ?_
      rintro e w2 ⟨rfl, q⟩
      have K2 := K1.up q
      clear CR2 K1 q x0 x1 x2 fx z0 z1 z2 fz
      obtain ⟨x0, x1, x2, fx⟩ := row3 (K2.get _ (app_idx _ _ 0))
      obtain ⟨z0, z1, z2, fz⟩ := row3 (K2.get _ (app_idx _ _ 1))
      go_wp2_with fail
      refine bodyPost_ret (v := .tuple #[.agg #[.slice ra rs.length rc, .slice na ns.length nc, .int .i64 G.most], .bool false]) (by simp [results, Try.results20, go_sem, z0, z1, z2, fz]) rfl ?_
      exact RgR.same3 K2 HI.out (fun v => .tuple #[v, .bool false]) _ _ _

end Go.Proofs.Ytfjkmdhkalbpkaa
