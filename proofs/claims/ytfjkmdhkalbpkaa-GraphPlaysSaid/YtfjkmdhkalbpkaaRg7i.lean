/- The document's graph: a node more. Condition: fewer than a thousand lists. -/
import Derived.Test.YtfjkmdhkalbpkaaRg7h
set_option linter.unusedVariables false
set_option linter.unusedSimpArgs false
namespace Go.Proofs.Ytfjkmdhkalbpkaa
open Go.ChangeShapes Go.WideShapes Go.ChangeAt Go.RowKit

/-- A list more among the nodes. -/
theorem rg_nodes_more {w0 w : World} {cs : List (Chunk w0.heap.size)} {i : Nat} {X : RS} {G : PG} {v xv : Value} {l' : List Int} (hi : cs[i]? = some (rgC _ X G)) (ds : List (Chunk w0.heap.size))
    (H : Has w0 w (cs ++ ds)) (j : Nat) (hj : ds[j]? = some (ownC _ 30 1 v (X.ns.length + 1) (X.ns.map (·.1) ++ [xv]))) (hx : Rd w xv l' ∧ capd xv) (hb : ∀ q ∈ xv.ownBlock.toList, q ∈ (rgC w0.heap.size X G).blocks ∨ ∃ (j : Nat) (d : Chunk w0.heap.size), ds[j]? = some d ∧ q ∈ d.blocks) :
    Has w0 w (cs.set i (rgC _ ⟨X.rv, X.rs, v, X.ns ++ [(xv, l')]⟩ { G with nodes := G.nodes ++ [l'] })) := by
  have A : RgAt w X G := H.get i (app_old hi)
  have O : Own w 30 1 v (X.ns.length + 1) (X.ns.map (·.1) ++ [xv]) := H.get (cs.length + j) (by rw [app_idx]; exact hj)
  have hll : LL w v (X.ns ++ [(xv, l')]) := by
    refine ⟨?_, fun m p hm => ?_⟩
    · right
      obtain ⟨g, off, c, hv, -, -, -, hc, -⟩ := own_at O (by omega)
      refine ⟨g, off, c, by rw [List.length_append]; exact hv, fun m p hm => hc m p.1 ?_⟩
      rw [show X.ns.map (·.1) ++ [xv] = (X.ns ++ [(xv, l')]).map (·.1) by simp, List.getElem?_map, hm]; rfl
    · rcases Nat.lt_or_ge m X.ns.length with q | q
      · rw [List.getElem?_append_left q] at hm
        exact A.n.2 m p hm
      · rw [List.getElem?_append_right q] at hm
        obtain rfl : m = X.ns.length := by
          have := (List.getElem?_eq_some_iff.1 hm).1
          simp at this; omega
        simp at hm
        subst hm
        exact hx
  refine H.freeze hi rfl rfl (fun q hq => ?_) ⟨?_, A.r, hll⟩
  · simp only [rgC] at hq
    rcases List.mem_append.1 hq with q1 | q1
    · exact .inl (List.mem_append_left _ q1)
    · rcases List.mem_append.1 q1 with q2 | q2
      · exact .inr ⟨j, _, hj, q2⟩
      · obtain ⟨p, hp, hqp⟩ := List.mem_flatMap.1 q2
        rcases List.mem_append.1 hp with hp | hp
        · exact .inl (List.mem_append_right _ (List.mem_append_right _ (List.mem_flatMap.2 ⟨p, hp, hqp⟩)))
        · obtain rfl : p = (xv, l') := by simpa using hp
          exact hb q hqp
  · have hg := A.g
    unfold RS.g at hg ⊢
    dsimp only
    rw [List.map_append, ← rg_nodes A, ← rg_roots A]
    rfl

set_option maxRecDepth 100000 in
set_option maxHeartbeats 4000000 in
theorem Alloc_r {w0 w : World} {cs : List (Chunk w0.heap.size)} (H : Has w0 w cs) (i : Nat) {X : RS} {G : PG} (hi : cs[i]? = some (rgC _ X G)) (ok : G.Ok) (hM : G.most < 1000000) (hR : G.roots.length < 1000) (hN : G.nodes.length < 1000) (m n : Int) :
    Calls Try.prog 16 #[X.v G.most, .int .i64 m, .int .i64 n] w fun e w' => RgR w0 cs i (G.alloc m n).1 (fun v => .tuple #[v, .int .i64 (G.alloc m n).2.1, .bool (G.alloc m n).2.2]) e w' := by
  have A : RgAt w X G := H.get i hi
  have hnl := rg_nlen A
  obtain ⟨ra, rc, hrv⟩ := ll_val A.r
  obtain ⟨na, nc, hnv⟩ := ll_val A.n
  have HI := Lib.hid hi
  clear A hi
  obtain ⟨rv, rs, nv, ns⟩ := X
  dsimp only at hrv hnv hnl
  subst hrv hnv
  unfold RS.v
  have K := rg_boxes H (.slice ra rs.length rc) (.slice na ns.length nc) G.most
  have CR := Room_r K i (app_old HI.out) m
  unfold PG.alloc
  cases hb : G.room m with
  | false =>
    rw [if_neg (by simp)]
    rw [hb] at CR
    have HC := Lib.hid CR
    clear CR hb hnl
    unfold RS.v at HC
    go_enter Try.func16, Try.ntmps16
    go_wp2_with fail
    refine HC.out.mono ?_
    rintro e w1 ⟨rfl, q⟩
    have K1 := K.up q
    obtain ⟨x0, x1, x2, fx⟩ := row3 (K1.get _ (app_idx _ _ 0))
    obtain ⟨z0, z1, z2, fz⟩ := row3 (K1.get _ (app_idx _ _ 1))
    clear q K
    go_wp2_with fail
    refine bodyPost_ret (v := .tuple #[.agg #[.slice ra rs.length rc, .slice na ns.length nc, .int .i64 G.most], .int .i64 0, .bool false]) (by simp [results, Try.results16, go_sem, z0, z1, z2, fz]) rfl ?_
    exact RgR.same3 K1 HI.out (fun v => .tuple #[v, .int .i64 0, .bool false]) _ _ _
  | true =>
    rw [hb] at CR
    have HC := Lib.hid CR
    clear CR
    unfold RS.v at HC
    by_cases h0 : n < 0
    · rw [if_neg (by omega)]
      clear hb hnl
      go_enter Try.func16, Try.ntmps16
      go_wp2_with fail
      refine HC.out.mono ?_
      rintro e w1 ⟨rfl, q⟩
      have K1 := K.up q
      obtain ⟨x0, x1, x2, fx⟩ := row3 (K1.get _ (app_idx _ _ 0))
      obtain ⟨z0, z1, z2, fz⟩ := row3 (K1.get _ (app_idx _ _ 1))
      clear q K
      go_wp2_with fail
      refine bodyPost_ret (v := .tuple #[.agg #[.slice ra rs.length rc, .slice na ns.length nc, .int .i64 G.most], .int .i64 0, .bool false]) (by simp [results, Try.results16, go_sem, z0, z1, z2, fz]) rfl ?_
      exact RgR.same3 K1 HI.out (fun v => .tuple #[v, .int .i64 0, .bool false]) _ _ _
    · by_cases h64 : (64 : Int) < n
      · rw [if_neg (by omega)]
        have h0b : decide (n < 0) = false := by simp; omega
        clear hb hnl h0
        go_enter Try.func16, Try.ntmps16
        go_wp2_with fail
        refine HC.out.mono ?_
        rintro e w1 ⟨rfl, q⟩
        have K1 := K.up q
        obtain ⟨x0, x1, x2, fx⟩ := row3 (K1.get _ (app_idx _ _ 0))
        obtain ⟨z0, z1, z2, fz⟩ := row3 (K1.get _ (app_idx _ _ 1))
        clear q K
        go_wp2_with fail
        refine bodyPost_ret (v := .tuple #[.agg #[.slice ra rs.length rc, .slice na ns.length nc, .int .i64 G.most], .int .i64 0, .bool false]) (by simp [results, Try.results16, go_sem, z0, z1, z2, fz]) rfl ?_
        exact RgR.same3 K1 HI.out (fun v => .tuple #[v, .int .i64 0, .bool false]) _ _ _
      · rw [if_pos ⟨by omega, by omega, rfl⟩]
        obtain ⟨l, hL, hlt⟩ := PG.room_some hb
        obtain ⟨k, rfl, hk⟩ := iget_some hL
        obtain ⟨q, rfl⟩ : ∃ q : Nat, n = (q : Int) := ⟨n.toNat, by omega⟩
        have hlM : l.length < 1000000 := by omega
        have h0b : decide ((q : Int) < 0) = false := by simp
        have h64b : decide ((64 : Int) < (q : Int)) = false := by simp; omega
        have HQ : Hid (q < 65) := Lib.hid (by omega)
        have HNS : Hid (ns.length < 1000000) := Lib.hid (by omega)
        obtain ⟨NN, hNN⟩ : ∃ NN : Nat, NN = G.nodes.length + 1 := ⟨_, rfl⟩
        rw [show (G.nodes.length : Int) + 1 = (NN : Int) by omega]
        have HNN : Hid (NN = ns.length + 1) := Lib.hid (by omega)
        have HK := Lib.hid hk
        have HLM := Lib.hid hlM
        have HRR := Lib.hid hR
        have LLH : Hid (∀ (wq : World) (cq : List (Chunk w0.heap.size)), Has w0 wq (cs ++ cq) → LL wq (.slice na ns.length nc) ns) := Lib.hid (fun wq cq Hq => (Hq.get i (app_old HI.out) : RgAt wq _ G).n)
        clear hb hL hlt hk h0 h64 hNN hnl hlM hN hM hR ok
        go_enter Try.func16, Try.ntmps16
        go_wp2_with fail
        refine HC.out.mono ?_
        rintro e w1 ⟨rfl, qq⟩
        have K1 := K.up qq
        obtain ⟨x0, x1, x2, fx⟩ := row3 (K1.get _ (app_idx _ _ 0))
        obtain ⟨B, hB⟩ : ∃ B, B = w.heap.size := ⟨_, rfl⟩
        rw [← hB] at K1 x0 x1 x2 fx ⊢
        clear qq K hB HC
        go_upto_region 6 with (at_builtin; refine wpl_appLL K1 rfl (.tmp 25) (.tmp 27) rfl rfl rfl (LLH.out _ _ K1) HNS.out ?_; intro v2 w2 G2)
        rw [List.append_assoc] at G2
        obtain ⟨va, vc, rfl⟩ := own_is (G2.get _ (app_idx _ _ 2))
        clear x0 x1 x2 fx K1
        have G2' : Has w0 w2 (cs ++ [rgT B _ (.slice ra rs.length rc) (.slice na ns.length nc) G.most, rgT (B + 1) _ (.slice none 0 0) (.slice none 0 0) 0, ownC _ 30 1 (.slice va ns.length vc) ns.length (ns.map (·.1))]) := G2
        clear G2
        go_upto_region 7 with (first | (at_make; refine wpl_mk G2' rfl (.tmp 30) (.tmp 30) rfl el_i7 rfl (by decide) q rfl rfl (by have := HQ.out; omega) ?_; intro w3 G3; rw [List.append_assoc] at G3; generalize w2.heap.size = gq at G3 ⊢) | (at_builtin; refine wpl_app G3 (cs.length + 2) rfl (.tmp 29) (.tmp 32) rfl el_s7 rfl (by decide) (by decide) (app_idx _ _ 2) rfl [.slice (some ⟨gq, 0, none⟩) q q] rfl rfl (by simp [Value.oneCell']) (by have := HNS.out; omega) ?_; intro v4 w4 G4; rw [set_app] at G4))
        have G5 : Has w0 w4 (cs ++ [rgT B _ (.slice ra rs.length rc) (.slice na ns.length nc) G.most, rgT (B + 1) _ (.slice none 0 0) (.slice none 0 0) 0, ownC _ 30 1 v4 (ns.length + 1) (ns.map (·.1) ++ [.slice (some ⟨gq, 0, none⟩) q q]), ownC _ 3 1 (.slice (some ⟨gq, 0, none⟩) q q) q (List.replicate q (.int .i64 0))]) := G4
        clear G4 G3 G2'
        obtain ⟨xa, xc, rfl⟩ := own_is (G5.get _ (app_idx _ _ 2))
        rw [← HNN.out] at G5 ⊢
        obtain ⟨x0, x1, x2, fx⟩ := row3 (G5.get _ (app_idx _ _ 0))
        go_upto_region 8 with fail
        have G6 := G5.blkSet (cs.length + 0) (app_idx _ _ 0) 1 (.slice xa NN xc)
        rw [set_app] at G6
        have G7 : Has w0 (w4.setCell ⟨B, 1, none⟩ (.slice xa NN xc)) ((cs ++ [rgT B _ (.slice ra rs.length rc) (.slice xa NN xc) G.most, rgT (B + 1) _ (.slice none 0 0) (.slice none 0 0) 0]) ++ [ownC _ 30 1 (.slice xa NN xc) NN (ns.map (·.1) ++ [.slice (some ⟨gq, 0, none⟩) q q]), ownC _ 3 1 (.slice (some ⟨gq, 0, none⟩) q q) q (List.replicate q (.int .i64 0))]) := by
          rw [List.append_assoc]; exact G6
        have hq6 : Own _ 3 1 (.slice (some ⟨gq, 0, none⟩) q q) q (List.replicate q (.int .i64 0)) := G7.get _ (app_idx _ _ 1)
        have hr6 : Rd (w4.setCell ⟨B, 1, none⟩ (.slice xa NN xc)) (.slice (some ⟨gq, 0, none⟩) q q) (List.replicate q 0) := rd_own (by rw [List.length_replicate, List.map_replicate]; exact hq6)
        have hc6 := own_capd hq6
        have G8 := rg_nodes_more (X := ⟨.slice ra rs.length rc, rs, .slice na ns.length nc, ns⟩) (v := .slice xa NN xc) (xv := .slice (some ⟨gq, 0, none⟩) q q) (app_old HI.out) _ G7 0 (by rw [← HNN.out]; rfl) ⟨hr6, hc6⟩ (fun q hq => .inr ⟨1, _, rfl, hq⟩)
        obtain ⟨W, HW, eW⟩ := G8.name
        rw [← eW.out]
        clear eW G8 G7 G6 hr6 hc6 hq6 x0 x1 x2 fx G5
        rw [List.set_append_left _ _ (List.getElem?_eq_some_iff.1 HI.out).1] at HW
        have hil : i < cs.length := (List.getElem?_eq_some_iff.1 HI.out).1
        have EM : G.more q = { G with nodes := G.nodes ++ [List.replicate q 0] } := by unfold PG.more; rw [Int.toNat_natCast]
        rw [← EM] at HW
        obtain ⟨x0, x1, x2, fx⟩ := row3 (HW.get _ (app_idx _ _ 0))
        have C9 := Push_r HW i (app_old (List.getElem?_set_self hil)) (show (G.more q).roots.length < 1000 from HRR.out) k l NN (show (G.more q).roots[k]? = some l from HK.out) HLM.out
        unfold RS.v at C9
        dsimp only at C9
        have HC9 := Lib.hid C9
        clear C9 EM
        go_wp2_with fail
        refine HC9.out.mono ?_
        intro e w9 R9
        obtain ⟨pa, pn, pc, ps, qa, qn, qc, qs, rfl, GA⟩ := R9.ex (by simp; omega)
        rw [List.set_append_left _ _ (by simpa using hil), List.set_set] at GA
        obtain ⟨u0, u1, u2, fu⟩ := row3 (GA.get _ (app_idx _ _ 1))
        go_wp2_with fail
        refine bodyPost_ret (v := .tuple #[.agg #[.slice pa pn pc, .slice qa qn qc, .int .i64 ((G.more q).push k NN).most], .int .i64 NN, .bool true]) (by simp [results, Try.results16, go_sem, u0, u1, u2, fu]) rfl ?_
        exact RgR.end3 GA (fun v => .tuple #[v, .int .i64 NN, .bool true]) _ _ _

end Go.Proofs.Ytfjkmdhkalbpkaa
