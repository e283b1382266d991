/- The program's graph in memory: a root is dropped; what is told. No condition but that fewer than a million roots, and nodes, are there. -/
import Derived.Test.YtfjkmdhkalbpkaaSort7
import Derived.Deep.DeepCutAuto
import Derived.Deep.OwnRows
set_option linter.unusedVariables false
set_option linter.unusedSimpArgs false
namespace Go.Proofs.Ytfjkmdhkalbpkaa
open Go.ChangeShapes Go.WideShapes Go.ChangeAt Go.RowKit

theorem own_take3 {w : World} {e : TypeId} {size g off m c n k : Nat} {xs : List Value} (h : Own w e size (.slice (some ⟨g, off, none⟩) m c) n xs) (hk : k ≤ n) : Own w e size (.slice (some ⟨g, off, none⟩) k k) k (xs.take (k * size)) := by
  have hks := Nat.mul_le_mul_right size hk
  refine ⟨by rw [List.length_take, h.1]; omega, ?_⟩
  rcases h.2 with ⟨hv, hn⟩ | ⟨g', off', cap, cur, hv, hg, hc, hm, hsz, ht⟩
  · simp at hv
  · simp only [Value.slice.injEq, Option.some.injEq, Addr.mk.injEq, and_true] at hv
    obtain ⟨⟨rfl, rfl⟩, rfl, rfl⟩ := hv
    refine .inr ⟨_, _, _, cur, rfl, hg, Nat.le_refl _, by omega, ?_, ?_⟩
    · have := Nat.mul_le_mul_right size hc; omega
    · rw [← ht, List.take_take, Nat.min_eq_left hks]

theorem pop_fin {w0 w : World} {cs : List (Chunk w0.heap.size)} {i : Nat} {S : GS} {k p : Nat} {g off c : Nat} {l : List Int} (hi : cs[i]? = some (grC _ S.gb S S.g)) (H : Has w0 w cs) (h1 : S.rl[k]? = some (.slice (some ⟨g, off, none⟩) l.length c, l)) (hl : S.g.roots[k]? = some l) (hp : l.length = p + 1) :
    ∃ S', Has w0 (w.setCell ⟨S.rb, k, none⟩ (.slice (some ⟨g, off, none⟩) p p)) (cs.set i (grC _ S.gb S' (S.g.drop k))) := by
  have hk := (List.getElem?_eq_some_iff.1 h1).1
  have O1 := (H.open hi).2
  have hpi := gl_ri (cs.set i (noC _)) S h1
  have O2 := O1.re (i := (cs.set i (noC _)).length + (3 + k)) (ownP _ (.slice (some ⟨g, off, none⟩) p p, l.dropLast)) hpi (by simp [ownC, Value.ownBlock]) (fun _ => rfl) (by
    have h := own_take3 (k := p) (O1.get _ hpi) (by dsimp only; omega)
    have e : (l.map (Value.int .i64)).take (p * 1) = l.dropLast.map (Value.int .i64) := by
      rw [Nat.mul_one, ← List.map_take, List.dropLast_eq_take, hp]; rfl
    show Own _ _ 1 _ l.dropLast.length _
    rw [e] at h
    rw [List.length_dropLast, hp]
    exact h)
  have G6 := O2.ownSet0 ((cs.set i (noC _)).length + 1) (e := 30) (size := 1) (g := S.rb) (m := S.rl.length) (c := S.rl.length) (n := S.rl.length) (xs := S.rl.map (·.1)) (by rw [List.getElem?_set_ne (by omega)]; exact gl_r _ S) k (.slice (some ⟨g, off, none⟩) p p) (by omega)
  have e := gl_push (cs.set i (noC _)) S k (.slice (some ⟨g, off, none⟩) p p, l.dropLast) hk
  unfold GS.rv at e
  rw [e] at G6
  refine ⟨_, Has.grClose hi G6 rfl ?_⟩
  unfold GS.g PG.drop
  dsimp only
  rw [Int.toNat_natCast, map_modify2 _ _ _ l (·.dropLast) hl rfl]

section
variable {w0 w : World} {cs : List (Chunk w0.heap.size)} (H : Has w0 w cs) (i : Nat) {gb : Nat} {S : GS} {G : PG} (hi : cs[i]? = some (grC _ gb S G)) (ok : G.Ok) (hM : G.most < 1000000) (hN : G.nodes.length < 1000000)
include H hi ok hM hN

set_option maxRecDepth 100000 in
set_option maxHeartbeats 4000000 in
theorem Pop_h (m : Int) : Calls Try.prog 25 #[.pointer (some ⟨gb, 0, none⟩), .int .i64 m] w fun e w' => GrR w0 cs i gb (G.pop m).1 (.bool (G.pop m).2) e w' := by
  obtain ⟨A, hgb, hG⟩ := H.gr i hi
  subst hgb
  subst hG
  have I := is_s A m
  have FIN := Lib.hid (fun n => GrR.same H hi (.bool false) n)
  obtain ⟨c0, c1, c2, fz⟩ := row3 A.g0
  unfold GS.rv at c1
  unfold PG.pop
  cases hb : S.g.isB m with
  | false =>
    rw [hb] at I
    have HI := Lib.hid I
    rw [isB_none hb]
    dsimp only
    clear A hi ok hM hN H I hb
    go_enter Try.func25, Try.ntmps25
    go_wp2_with fail
    refine HI.out.mono ?_
    rintro e w' ⟨rfl, hw⟩
    obtain rfl := hw.symm
    go_wp2_with fail
    go_ret
    exact FIN.out 0
  | true =>
    rw [hb] at I
    have HI := Lib.hid I
    obtain ⟨k, l, rfl, hk, hL⟩ := isB_some hb
    rw [hL]
    dsimp only
    obtain ⟨a, c, h1, h2, h3⟩ := A.root hk
    have hkl : (k : Int) < (S.rl.length : Int) := by have := (List.getElem?_eq_some_iff.1 h1).1; omega
    by_cases h0 : l = []
    · subst h0
      rw [if_pos rfl]
      clear A hi ok hM hN H I hb hL h1 h3 hk
      go_enter Try.func25, Try.ntmps25
      go_wp2_with fail
      refine HI.out.mono ?_
      rintro e w' ⟨rfl, hw⟩
      obtain rfl := hw.symm
      go_wp2_with fail
      go_ret
      exact FIN.out 0
    · rw [if_neg h0]
      obtain ⟨p, hp⟩ : ∃ p, l.length = p + 1 := ⟨l.length - 1, by have := List.length_pos_iff.2 h0; omega⟩
      have hlm := ok.rl l (List.mem_of_getElem? hk)
      have hpb : (p : Int) < 1000000 := by omega
      obtain ⟨g, off, rfl, -⟩ := h3 0 (l[0]'(by omega)) (List.getElem?_eq_getElem (by omega))
      obtain ⟨g', off', hh, hcap, hcm, -⟩ := own_atV (n := l.length) (A.ri k _ h1) (by omega)
      cases hh
      have hkn : 0 < S.rl.length := by omega
      obtain ⟨rg, ro, hh, -, -, hlt, hcell, hfz⟩ := own_atV A.ro hkn
      cases hh
      have q2 := hfz k
      rw [hp] at h2 hcap
      have hpc : (p : Int) + 1 ≤ (c : Int) := by omega
      have hpc2 : (p : Int) ≤ (c : Int) := by omega
      have FN := Lib.hid (pop_fin hi H h1 hk hp)
      clear A hi ok hM hN H I hb hL h1 h3 hk h0 hcell hfz hcm hcap hlm hp
      have hpw : wrap64 (p : Int) = p := by unfold wrap64; omega
      have hpn : p ≤ c := by omega
      clear hpb hpc hpc2
      go_enter Try.func25, Try.ntmps25
      go_wp2_with fail
      refine HI.out.mono ?_
      rintro e w' ⟨rfl, hw⟩
      obtain rfl := hw.symm
      go_wp2_with fail
      refine wp_region_noPanic ?_
      go_region
      all_goals
        refine NoPanic.normal ?_
        go_wp2_with fail
        go_ret
        obtain ⟨S', G'⟩ := FN.out
        exact ⟨rfl, S', by first | exact G' | exact G'.drew⟩
end

theorem blk_new2 (w : World) (o : Obj) (xs : Array Value) (T : TypeId) : ((w.alloc o).alloc (.cells xs T)).drew.heap[w.heap.size + 1]? = some (.cells xs T (0, 0)) := by
  have h := blk_new (w.alloc o) (.cells xs T) 1
  rw [show (w.alloc o).heap.size = w.heap.size + 1 by simp] at h
  exact h

theorem more_fin {w0 w5 : World} {cs : List (Chunk w0.heap.size)} {i : Nat} {S : GS} {v nv : Value} {l : List Int} {n : Int} (hi : cs[i]? = some (grC _ S.gb S S.g)) (hl : l = List.replicate n.toNat 0)
    (G5 : Has w0 w5 (((cs.set i (noC _) ++ gList _ S) ++ [ownP _ (v, l)]).set ((cs.set i (noC _)).length + 2) (ownC _ 30 1 nv (S.nl.length + 1) (S.nl.map (fun q : Value × List Int => q.1) ++ [v])))) :
    ∃ S', Has w0 (w5.setCell ⟨S.gb, 2, none⟩ nv) (cs.set i (grC _ S.gb S' (S.g.more n))) := by
  have G6 := G5.blkSet ((cs.set i (noC _)).length + 0) (b := S.gb) (xs := #[.int .i64 S.most, S.rv, S.nv]) (T := 60) (by
    rw [List.getElem?_set_ne (by omega), List.getElem?_append_left (by simp [gList])]; exact gl_b _ S) 2 nv
  have e := gl_more (cs.set i (noC _)) S nv (v, l)
  have e2 : (#[Value.int .i64 S.most, S.rv, S.nv] : Array Value).setIfInBounds 2 nv = #[Value.int .i64 S.most, S.rv, nv] := rfl
  rw [e2, e] at G6
  refine ⟨_, Has.grClose hi G6 rfl ?_⟩
  unfold GS.g PG.more
  dsimp only
  rw [List.map_append, hl]
  rfl

section
variable {w0 w : World} {cs : List (Chunk w0.heap.size)} (H : Has w0 w cs) (i : Nat) {gb : Nat} {S : GS} {G : PG} (hi : cs[i]? = some (grC _ gb S G)) (ok : G.Ok) (hM : G.most < 1000000) (hN : G.nodes.length < 1000000)
include H hi ok hM hN

set_option maxRecDepth 100000 in
set_option maxHeartbeats 4000000 in
theorem Alloc_h (m n : Int) : Calls Try.prog 29 #[.pointer (some ⟨gb, 0, none⟩), .int .i64 m, .int .i64 n] w fun e w' => GrR w0 cs i gb (G.alloc m n).1 (.tuple #[.int .i64 (G.alloc m n).2.1, .bool (G.alloc m n).2.2]) e w' := by
  obtain ⟨A, hgb, hG⟩ := H.gr i hi
  subst hgb
  subst hG
  have HQ := Lib.hid (room_q A m)
  have FIN := Lib.hid (fun n => GrR.same H hi (.tuple #[.int .i64 0, .bool false]) n)
  unfold PG.alloc
  by_cases h0 : n < 0
  · rw [if_neg (by omega)]
    clear A hi ok hM hN H
    go_enter Try.func29, Try.ntmps29
    go_wp2_with fail
    go_ret2
    exact FIN.out 0
  · by_cases h64 : (64 : Int) < n
    · rw [if_neg (by omega)]
      clear A hi ok hM hN H
      go_enter Try.func29, Try.ntmps29
      go_wp2_with fail
      go_ret2
      exact FIN.out 0
    · cases hb : S.g.room m with
      | false =>
        rw [if_neg (by rintro ⟨_, _, h⟩; cases h)]
        have HQ' := Lib.hid (show Calls Try.prog 30 #[.pointer (some ⟨S.gb, 0, none⟩), .int .i64 m] w fun e w' => e = .returned (.bool false) ∧ ∃ n, w' = w.drewN n by rw [← hb]; exact HQ.out)
        clear A hi ok hM hN H hb HQ
        go_enter Try.func29, Try.ntmps29
        go_wp2_with fail
        refine HQ'.out.mono ?_
        rintro e w' ⟨rfl, d, rfl⟩
        go_wp2_with fail
        go_ret2
        exact FIN.out d
      | true =>
        rw [if_pos ⟨by omega, by omega, rfl⟩]
        have HQ' := Lib.hid (show Calls Try.prog 30 #[.pointer (some ⟨S.gb, 0, none⟩), .int .i64 m] w fun e w' => e = .returned (.bool true) ∧ ∃ n, w' = w.drewN n by rw [← hb]; exact HQ.out)
        obtain ⟨l, hL, hlt⟩ := PG.room_some hb
        obtain ⟨k, rfl, hk⟩ := iget_some hL
        obtain ⟨q, rfl⟩ : ∃ q : Nat, n = (q : Int) := ⟨n.toNat, by omega⟩
        have hmk := fun w : World => run_make_row' (P := Try.prog) 30 3 (.int .i64 0) 8 Try.underlying30 (by kernel_rfl) rfl .i64 .i64 q (by omega) (by omega) w
        have hlM : l.length < 1000000 := by omega
        obtain ⟨NN, hNN⟩ : ∃ NN : Nat, NN = S.g.nodes.length + 1 := ⟨_, rfl⟩
        rw [show (S.g.nodes.length : Int) + 1 = (NN : Int) by omega]
        have HNN := Lib.hid hNN
        clear hNN
        have HI := Lib.hid hi
        have HK := Lib.hid hk
        have HN := Lib.hid hN
        clear A hi ok hM hN hb HQ hL hlt hk
        go_enter Try.func29, Try.ntmps29
        go_wp2_with fail
        refine HQ'.out.mono ?_
        rintro e w' ⟨rfl, d, rfl⟩
        have HD := H.drewN d
        generalize w.drewN d = wd at HD ⊢
        clear HQ' FIN H
        go_upto_region 3 with (fail)
        go_cut [20] (fun _ wx => ∃ S', Has w0 wx (cs.set i (grC _ S.gb S' (S.g.more q))))
        case first =>
          obtain ⟨A, -, -⟩ := HD.gr i HI.out
          obtain ⟨na, nc, hnv⟩ := own_is A.no
          obtain ⟨c0, c1, c2, fz⟩ := row3 A.g0
          have hgl : S.gb < wd.heap.size := blk_lt A.g0
          have O := (HD.open HI.out).2
          rw [hnv] at c2
          clear c0 c1 A
          generalize hZ : madeCells #[Value.int .i64 0] q = Z at hmk
          have O1 : Has w0 (wd.alloc (.cells Z 3)) ((cs.set i (noC _) ++ gList _ S) ++ [ownP _ (.slice (some ⟨wd.heap.size, 0, none⟩) q q, List.replicate q 0)]) := by
            have h := O.ownLit Z 3 1 q (by rw [← hZ, size_madeCells]; omega) (by omega)
            have e1 : Z.toList = (List.replicate q (0 : Int)).map (Value.int .i64) := by rw [← hZ, toList_madeCells_one]; simp
            rw [e1] at h
            have e2 : ownP w0.heap.size (.slice (some ⟨wd.heap.size, 0, none⟩) q q, List.replicate q 0) = ownC _ 3 1 (.slice (some ⟨wd.heap.size, 0, none⟩) q q) q ((List.replicate q (0 : Int)).map (Value.int .i64)) := by
              show ownC _ _ 1 _ (List.replicate q (0 : Int)).length _ = _
              rw [List.length_replicate]
            rw [e2]; exact h
          have I2 : Hid (((cs.set i (noC _) ++ gList w0.heap.size S) ++ [ownP _ (.slice (some ⟨wd.heap.size, 0, none⟩) q q, List.replicate q 0)])[(cs.set i (noC _)).length + 2]? = some (ownC _ 30 1 (.slice na S.nl.length nc) S.nl.length (S.nl.map (fun q : Value × List Int => q.1)))) := Lib.hid (by
            rw [List.getElem?_append_left (by simp [gList])]; rw [← hnv]; exact gl_n _ S)
          have I0 : Hid (((cs.set i (noC _) ++ gList w0.heap.size S) ++ [ownP _ (.slice (some ⟨wd.heap.size, 0, none⟩) q q, List.replicate q 0)])[(cs.set i (noC _)).length]? = some (blkC _ S.gb #[.int .i64 S.most, S.rv, S.nv] 60)) := Lib.hid (by
            rw [List.getElem?_append_left (by simp [gList])]; exact gl_b _ S)
          have HNV := Lib.hid hnv
          have hN' : S.nl.length < 1000000 := by have := HN.out; rw [nodes_len] at this; exact this
          clear hnv hZ O
          go_wp2_with fail
          refine wp_region_noPanic ?_
          go_region_law (first | (refine step_app ((O1.alloc (.cells #[.slice (some ⟨wd.heap.size, 0, none⟩) q q] 30)).drew) _ rfl _ _ rfl el_s7 rfl (by decide) (by decide) I2.out rfl [.slice (some ⟨wd.heap.size, 0, none⟩) q q] (wd.heap.size + 1) (blk_new2 _ _ _ _) rfl rfl (by simp [Value.oneCell']) (by omega) ?_; intro v1 w5 G5; obtain ⟨xa, xc, rfl⟩ := own_is (G5.get _ (set_idx I2.out _)); have G5b := G5.get (cs.set i (noC _)).length (by rw [List.getElem?_set_ne (by omega)]; exact I0.out); rw [HNV.out] at G5b; obtain ⟨e0, e1, e2, fe⟩ := row3 G5b; clear G5b))
          all_goals
            refine NoPanic.normal ?_
            go_wp2_with fail
            go_meet
            obtain ⟨S', G'⟩ := more_fin (n := (q : Int)) HI.out (by simp) G5
            exact ⟨S', by first | exact G' | exact G'.drew⟩
        case rest =>
        obtain ⟨S1, G1⟩ := hcut
        clear HD
        obtain ⟨A1, hg1, hG1⟩ := G1.gr i (set_idx HI.out _)
        obtain ⟨na, nc, hnv⟩ := own_is A1.no
        have hl1 : S1.nl.length = NN := by rw [HNN.out, ← nodes_len, hG1]; simp [PG.more]
        obtain ⟨c0, c1, c2, fz⟩ := row3 A1.g0
        rw [hg1] at c0 c1 c2 fz
        rw [hnv, hl1] at c2
        have HP := Lib.hid (push_h G1 i (set_idx HI.out _) k l (NN : Int) HK.out hlM)
        clear A1 hg1 hG1 hnv hl1 c0 c1
        go_wp2_with fail
        refine HP.out.mono ?_
        rintro e w' ⟨rfl, S2, G2⟩
        rw [List.set_set] at G2
        obtain ⟨A2, hg2, hG2⟩ := G2.gr i (set_idx HI.out _)
        obtain ⟨ma, mc, hmv⟩ := own_is A2.no
        have hl2 : S2.nl.length = NN := by rw [HNN.out, ← nodes_len, hG2]; simp [PG.more, PG.push]
        obtain ⟨d0, d1, d2, gz⟩ := row3 A2.g0
        rw [hg2] at d0 d1 d2 gz
        rw [hmv, hl2] at d2
        clear A2 hg2 hG2 hmv hl2 d0 d1 c2 fz
        go_wp2_with fail
        go_ret2
        exact ⟨rfl, S2, G2⟩
end

end Go.Proofs.Ytfjkmdhkalbpkaa
