/- The document's graph: the last root taken away. Condition: fewer than a thousand lists. -/
import Derived.Test.YtfjkmdhkalbpkaaRg7f
set_option linter.unusedVariables false
set_option linter.unusedSimpArgs false
namespace Go.Proofs.Ytfjkmdhkalbpkaa
open Go.ChangeShapes Go.WideShapes Go.ChangeAt Go.RowKit

theorem rg_box2 {w0 w : World} {cs : List (Chunk w0.heap.size)} (H : Has w0 w cs) (u v : Value) (m : Int) (n : Nat) : Has w0 (((w.alloc (.cells #[u, v, .int .i64 m] 36)).alloc (.cells #[.slice none 0 0, .slice none 0 0, .int .i64 0] 36)).drewN n) (cs ++ [rgT w.heap.size _ u v m, rgT (w.heap.size + 1) _ (.slice none 0 0) (.slice none 0 0) 0]) := (rg_boxes H u v m).drewN n

theorem ll_cell {w : World} {b off n c : Nat} {ps : List (Value × List Int)} (h : LL w (.slice (some ⟨b, off, none⟩) n c) ps) {k : Nat} {p : Value × List Int} (hk : ps[k]? = some p) : w.cell? ⟨b, off + k, none⟩ = some p.1 := by
  rcases h.1 with ⟨hv, _⟩ | ⟨b', off', c', hv, hc⟩
  · cases hv
  · simp only [Value.slice.injEq, Option.some.injEq, Addr.mk.injEq] at hv
    obtain ⟨⟨rfl, rfl, -⟩, -, -⟩ := hv
    exact hc k p hk

theorem rd_cut {w : World} {g off n c : Nat} {l : List Int} {z : Int} (h : Rd w (.slice (some ⟨g, off, none⟩) n c) (l ++ [z]) ∧ capd (.slice (some ⟨g, off, none⟩) n c)) : Rd w (.slice (some ⟨g, off, none⟩) l.length c) l ∧ capd (.slice (some ⟨g, off, none⟩) l.length c) := by
  rcases h.1 with ⟨_, h0⟩ | ⟨g', off', c', hv, hc⟩
  · simp at h0
  · simp only [Value.slice.injEq, Option.some.injEq, Addr.mk.injEq] at hv
    obtain ⟨⟨rfl, rfl, -⟩, hn, rfl⟩ := hv
    refine ⟨.inr ⟨g, off, c, rfl, fun j x hj => hc j x ?_⟩, ?_⟩
    · rw [List.getElem?_append_left (List.getElem?_eq_some_iff.1 hj).1]; exact hj
    · have := h.2
      simp only [capd] at this ⊢
      rw [hn] at this
      simp at this
      omega

set_option maxRecDepth 100000 in
set_option maxHeartbeats 4000000 in
theorem Pop_r {w0 w : World} {cs : List (Chunk w0.heap.size)} (H : Has w0 w cs) (i : Nat) {X : RS} {G : PG} (hi : cs[i]? = some (rgC _ X G)) (ok : G.Ok) (hM : G.most < 1000000) (hR : G.roots.length < 1000) (m : Int) :
    Calls Try.prog 19 #[X.v G.most, .int .i64 m] w fun e w' => RgR w0 cs i (G.pop m).1 (fun v => .tuple #[v, .bool (G.pop m).2]) e w' := by
  have A : RgAt w X G := H.get i hi
  have hl := rg_rlen A
  have HN := rg_roots A
  obtain ⟨ra, rc, hrv⟩ := ll_val A.r
  obtain ⟨na, nc, hnv⟩ := ll_val A.n
  have HI := Lib.hid hi
  clear hi
  obtain ⟨rv, rs, nv, ns⟩ := X
  dsimp only at hrv hnv hl HN
  subst hrv hnv
  unfold RS.v
  have K := rg_boxes H (.slice ra rs.length rc) (.slice na ns.length nc) G.most
  obtain ⟨x0, x1, x2, fx⟩ := row3 (K.get _ (app_idx _ _ 0))
  obtain ⟨z0, z1, z2, fz⟩ := row3 (K.get _ (app_idx _ _ 1))
  have NO : G.pop m = (G, false) → Calls Try.prog 19 #[.agg #[.slice ra rs.length rc, .slice na ns.length nc, .int .i64 G.most], .int .i64 m] w (fun e w' => RgR w0 cs i G (fun v => .tuple #[v, .bool false]) e w') → Calls Try.prog 19 #[.agg #[.slice ra rs.length rc, .slice na ns.length nc, .int .i64 G.most], .int .i64 m] w (fun e w' => RgR w0 cs i (G.pop m).1 (fun v => .tuple #[v, .bool (G.pop m).2]) e w') := by
    intro h; rw [h]; exact id
  cases hL : G.L m with
  | none =>
    refine NO (by unfold PG.pop; rw [hL]) ?_
    have hm := iget_none hL
    rw [hl] at hm
    clear NO hL A HN hl
    by_cases h0 : m < 0
    · clear hm
      go_enter Try.func19, Try.ntmps19
      go_wp2_with fail
      refine bodyPost_ret (v := .tuple #[.agg #[.slice ra rs.length rc, .slice na ns.length nc, .int .i64 G.most], .bool false]) (by simp [results, Try.results19, go_sem, z0, z1, z2, fz]) rfl ?_
      exact RgR.same H HI.out (fun v => .tuple #[v, .bool false]) (((Has.nil w).alloc _).alloc _).below
    · have h0b : decide (m < 0) = false := by simp; omega
      have h1 : (rs.length : Int) ≤ m := by omega
      clear hm h0
      go_enter Try.func19, Try.ntmps19
      go_wp2_with fail
      refine bodyPost_ret (v := .tuple #[.agg #[.slice ra rs.length rc, .slice na ns.length nc, .int .i64 G.most], .bool false]) (by simp [results, Try.results19, go_sem, z0, z1, z2, fz]) rfl ?_
      exact RgR.same H HI.out (fun v => .tuple #[v, .bool false]) (((Has.nil w).alloc _).alloc _).below
  | some l =>
    obtain ⟨k, rfl, hk⟩ := iget_some hL
    have hkk := hk
    rw [HN] at hkk
    obtain ⟨b, off, c, la, lc, hv, hps, hkl, hcell, hrd⟩ := ll_at A.r hkk
    have hcap := ll_cap A.r hps
    have hbl : b < w.heap.size := rg_size H HI.out b (by dsimp only at hv; simp [llB, hv, Value.ownBlock])
    dsimp only at hv
    simp only [Value.slice.injEq] at hv
    obtain ⟨rfl, -, rfl⟩ := hv
    have h0b : decide ((k : Int) < 0) = false := by simp
    have h1b : decide ((rs.length : Int) ≤ (k : Int)) = false := by simp; exact hkl
    have h2i : (k : Int) < (rs.length : Int) := by dsimp only at hkl; omega
    have h3i : (0 : Int) ≤ (k : Int) := by omega
    by_cases hl0 : l = []
    · refine NO (by unfold PG.pop; rw [hL]; simp [hl0]) ?_
      subst hl0
      clear NO hL A HN hl hrd hps hkk hk hkl
      dsimp only [List.length_nil] at hcell
      go_enter Try.func19, Try.ntmps19
      go_wp2_with fail
      refine bodyPost_ret (v := .tuple #[.agg #[.slice (some ⟨b, off, none⟩) rs.length rc, .slice na ns.length nc, .int .i64 G.most], .bool false]) (by simp [results, Try.results19, go_sem, z0, z1, z2, fz]) rfl ?_
      exact RgR.same H HI.out (fun v => .tuple #[v, .bool false]) (((Has.nil w).alloc _).alloc _).below
    · have POP : G.pop k = (G.drop k, true) := by unfold PG.pop; rw [hL]; simp [hl0]
      rw [POP]
      obtain ⟨l0, z, rfl⟩ : ∃ l0 z, l = l0 ++ [z] := ⟨l.dropLast, l.getLast hl0, (List.dropLast_concat_getLast hl0).symm⟩
      rcases hrd with ⟨_, h0⟩ | ⟨g2, off2, c2, hv2, hc2⟩
      · exact absurd h0 hl0
      simp only [Value.slice.injEq] at hv2
      obtain ⟨rfl, -, rfl⟩ := hv2
      obtain ⟨LN, hLN⟩ : ∃ LN, LN = (l0 ++ [z]).length := ⟨_, rfl⟩
      obtain ⟨n, hn⟩ : ∃ n, n = l0.length := ⟨_, rfl⟩
      rw [← hLN] at hcell hcap
      have hln : LN = n + 1 := by rw [hLN, hn]; simp
      have e1 : ((LN : Int) == 0) = false := by simp; omega
      have hM' : (LN : Int) < 1000000 := by
        have := ok.rl _ (List.mem_of_getElem? hk)
        rw [← hLN] at this
        omega
      have e2 : IntKind.i64.wrap ((LN : Int) - 1) = (n : Int) := by rw [show (LN : Int) - 1 = (n : Int) by omega]; exact wrapi64_id _ (by omega) (by omega)
      have e3 : (0 : Int) ≤ (n : Int) := by omega
      have e4 : (n : Int) ≤ (lc : Int) := by omega
      have hgl : g2 < w.heap.size := rg_size H HI.out g2 (List.mem_append_left _ (List.mem_append_right _ (List.mem_flatMap.2 ⟨_, List.mem_of_getElem? hps, by simp [Value.ownBlock]⟩)))
      have HNL := Lib.hid hn
      rw [← hLN] at hps
      have HPS := Lib.hid hps
      have HC2 := Lib.hid hc2
      have HK := Lib.hid hk
      have hrn : rs.length < 1000000 := by omega
      have HLL : Hid (∀ (wq : World) (cq : List (Chunk w0.heap.size)), Has w0 wq (cs ++ cq) → LL wq (.slice (some ⟨b, off, none⟩) rs.length rc) rs) := Lib.hid (fun wq cq Hq => (Hq.get i (app_old HI.out) : RgAt wq _ G).r)
      have HBK : Hid (b ≠ w.heap.size + 1) := Lib.hid (by omega)
      clear NO hL A HN hl hps hkk hk hl0 POP hLN hn hln hM' hc2
      go_enter Try.func19, Try.ntmps19
      go_wp2_with fail
      obtain ⟨B, hB⟩ : ∃ B, B = w.heap.size := ⟨_, rfl⟩
      obtain ⟨w1, hw1⟩ : ∃ w1, w1 = (w.alloc (.cells #[.slice (some ⟨b, off, none⟩) rs.length rc, .slice na ns.length nc, .int .i64 G.most] 36)).alloc (.cells #[.slice none 0 0, .slice none 0 0, .int .i64 0] 36) := ⟨_, rfl⟩
      have q1 : Below w.heap.size w w1 := by rw [hw1]; exact (((Has.nil w).alloc _).alloc _).below
      rw [← hw1] at K x0 x1 x2 fx z0 z1 z2 fz ⊢
      clear hw1
      have p1 : w1.cell? ⟨b, off + k, none⟩ = _ := (q1.cell (p := ⟨b, off + k, none⟩) hbl).trans hcell
      have hbk := HBK.out
      rw [← hB] at K x0 x1 x2 fx hbk ⊢
      clear hB z0 z1 z2 fz q1 hcell hbl hgl
      go_region_held3 (fun w' => w'.cell? ⟨B, 0, none⟩ = some (.slice (some ⟨b, off, none⟩) rs.length rc) ∧ w'.cell? ⟨B, 1, none⟩ = some (.slice na ns.length nc) ∧ w'.cell? ⟨B, 2, none⟩ = some (.int .i64 G.most) ∧ w'.cell? ⟨b, off + k, none⟩ = some (.slice (some ⟨g2, off2, none⟩) LN lc)) (refine ⟨?_, ?_, ?_, ?_⟩ <;> (first | (with_reducible assumption) | (simp only [cell_drewN7, cell_drew7]; with_reducible assumption) | ((try simp only [cell_drewN7, cell_drew7]); (repeat (with_reducible refine set_cellb7 _ ?_ (by omega))); (first | (with_reducible assumption) | (simp only [cell_drewN7, cell_drew7]; with_reducible assumption))))) (first | (go_at_call 37; refine (with_r (K.drewN _) (HLL.out _ _ (K.drewN _)) k hkl hrn (some ⟨g2, off2, none⟩) n lc).mono ?_; rintro e w3 ⟨ov, rfl, G5⟩; rw [List.append_assoc] at G5; obtain ⟨y0, y1, y2, fy⟩ := row3 (G5.get _ (app_idx _ _ 0)); obtain ⟨u0, u1, u2, fu⟩ := row3 (G5.get _ (app_idx _ _ 1)); obtain ⟨oa, oc, rfl⟩ := own_is (G5.get _ (app_idx _ _ 2)); have p3 : w3.cell? ⟨b, off + k, none⟩ = some (.slice (some ⟨g2, off2, none⟩) LN lc) := ll_cell (HLL.out w3 _ G5) HPS.out))
      all_goals
        go_wp2_with fail
        refine bodyPost_ret (v := .tuple #[.agg #[.slice oa rs.length oc, .slice na ns.length nc, .int .i64 G.most], .bool true]) (by simp [results, Try.results19, go_sem, u0, u1, u2, fu]) rfl ?_
        have G6 := G5.set3 (cs.length + 1) (app_idx _ _ 1) (.slice oa rs.length oc) (.slice na ns.length nc) (.int .i64 G.most)
        rw [set_app] at G6
        have r6 := rd_cut ((HLL.out _ _ G6).2 k _ HPS.out)
        rw [← HNL.out] at r6
        have G7 := rg_roots_to HI.out (·.dropLast) HK.out (by simp) _ G6 2 rfl r6 (fun q hq => .inl (List.mem_append_left _ (List.mem_append_right _ (List.mem_flatMap.2 ⟨_, List.mem_of_getElem? HPS.out, hq⟩))))
        refine ⟨⟨.slice oa rs.length oc, rs.set k (.slice (some ⟨g2, off2, none⟩) n lc, l0), .slice na ns.length nc, ns⟩, rfl, ?_⟩
        unfold PG.drop
        rw [Int.toNat_natCast]
        exact G7

end Go.Proofs.Ytfjkmdhkalbpkaa
