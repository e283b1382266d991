/- dustmanref05.First: the words as they are at first. Condition: the configuration may be. -/
import Derived.Test.YtjfemakkjfpdhaaFirst5w
import Derived.Deep.DeepCutAuto
import Derived.Deep.QuietTactic
import Derived.BigQuiet
set_option linter.unusedVariables false
set_option linter.unusedSimpArgs false
namespace Go.Proofs.Ytjfemakkjfpdhaa
open Go.ChangeShapes Go.WideShapes Go.ChangeAt Go.RowKit

theorem cls_get1 {c : Cfg} (n : Nat) (h : (n : Int) < c.nd) : c.cls[n]? = some (c.clsAt ((n : Int) + 1)) := by
  have hl := cls_len (c := c)
  have e : c.nd = sNodes c.c0 c.c1 c.c2 c.c3 c.c4 := rfl
  have := cells_class c.c0 c.c1 c.c2 c.c3 c.c4 ((n : Int) + 1) (by omega) (by omega)
  have e2 : ((n : Int) + 1 - 1).toNat = n := by omega
  rw [e2] at this
  exact this
theorem room_cls1 {c : Cfg} (n : Nat) (h : (n : Int) < c.nd) : sSlots (c.clsAt ((n : Int) + 1)) = c.roomAt ((n : Int) + 1) := by
  have h1 := room_get (c := c) ((n : Int) + 1) (by omega)
  have e2 : ((n : Int) + 1).toNat - 1 = n := by omega
  rw [e2] at h1
  unfold Cfg.rooms at h1
  rw [List.getElem?_map, cls_get1 n h] at h1
  exact Option.some.inj h1
theorem lst_hi (c : Cfg) (q lo : Int) (h : c.nd - 1 ≤ lo) : ∀ k : Nat, lst c q lo k = 0
  | 0 => rfl
  | k + 1 => by simp only [lst]; rw [if_neg (fun r => by omega)]; exact lst_hi c q lo h k

def gC3 (c : Cfg) (t : Th) : Int := if t.k = 15 ∧ t.a = c.nd then 1 else gLink (c.mn - 1) t
theorem gComm_bd {c : Cfg} (h : CfgOk c) (t : Th) (ok : ThOk c t) : 0 ≤ gComm c t ∧ gComm c t ≤ 2000 := by
  have hb := cfg_bd h
  have := hb.mn
  have hnd := hb.nd
  have hr := roomAt_pos c.nd ⟨hnd.1, Int.le_refl _⟩
  unfold gComm
  split
  · omega
  · split
    · omega
    · unfold gLink
      split
      · rename_i h2
        have := ok.pack h2.1
        omega
      · unfold gBase; split <;> omega

set_option maxRecDepth 100000 in
set_option maxHeartbeats 16000000 in
theorem RFirst_h {w0 w : World} {cs : List (Chunk w0.heap.size)} (H0 : Has w0 w cs) (c : Cfg) (h : CfgOk c) :
    Calls Try.prog 31 #[cfgV c] w fun e w' => ∃ v, e = .returned v ∧ Has w0 w' (cs ++ [ownN _ 56 .u64 v (c.things.map (gFirst c))]) := by
  have hbd := cfg_bd h
  have hnd := hbd.nd
  have hmn := hbd.mn
  have hal := hbd.al
  have hn0 := hbd.n0
  have TL := Lib.hid (things_seg h).2
  have hll : c.things.length ≤ 9000 ∧ 0 < c.things.length := by have := TL.out; have := hbd.pk; have := hbd.dqP; have := h.mu; omega
  have CL := Lib.hid (cls_len (c := c))
  have hle := cls_le c
  clear hbd hal hn0
  unfold cfgV cfgCells
  go_enter Try.func31, Try.ntmps31
  have G0 := (Has.nil w).blkNew (cfgCells c) 28
  go_wp2_with fail
  refine (RThings_h G0 c h).mono ?_
  rintro e w1 ⟨lv, rfl, G1⟩
  obtain ⟨la, lc, rfl⟩ := own_is (G1.get 1 rfl)
  obtain ⟨lg, loff, rfl, -, -, -, -, -⟩ := own_atV (G1.get 1 rfl) (by omega)
  obtain ⟨b0, b1, b2, b3, b4, b5, b6, b7, b8, b9, b10, b11, fb⟩ := row12 (G1.get 0 rfl)
  clear G0
  go_wp2_with fail
  refine (RAll_h G1 c.c0 c.c1 c.c2 c.c3 c.c4).mono ?_
  rintro e w2 ⟨kv, rfl, G2⟩
  have hcl : cPre [c.c0, c.c1, c.c2, c.c3, c.c4] 5 = c.cls := rfl
  rw [hcl] at G2
  clear hcl G1 b0 b1 b2 b3 b4 b5 b6 b7 b8 b9 b10 b11 fb
  obtain ⟨ka, kc, rfl⟩ := own_is (G2.get 2 rfl)
  obtain ⟨kg, koff, rfl, -, -, -, -, -⟩ := own_atV (G2.get 2 rfl) (by have := CL.out; omega)
  obtain ⟨b0, b1, b2, b3, b4, b5, b6, b7, b8, b9, b10, b11, fb⟩ := row12 (G2.get 0 rfl)
  go_wp2_with fail
  refine (RPackets_h G2 c h).mono ?_
  rintro e w3 ⟨rfl, G3⟩
  clear G2 b0 b1 b2 b3 b4 b5 b6 b7 b8 b9 b10 b11 fb
  have G4 := G3.ownNil 56 1
  clear G3
  go_wp2_with fail
  go_loopw [6, 7, 8, 9, 10] (fun ov iv u8 u9 u10 wr => ∃ (i : Nat) (ys : List Int), i ≤ c.things.length ∧ iv = .int .i64 i ∧ Hid (ys = (c.things.take i).map (gFirst c)) ∧ Has w wr [blkC _ w.heap.size (cfgCells c) 28, ownT _ (.slice (some ⟨lg, loff, none⟩) c.things.length lc) c.things, ownN _ 3 .i64 (.slice (some ⟨kg, koff, none⟩) c.cls.length kc) c.cls, ownN _ 56 .u64 ov ys]) (fun _ iv _ _ _ _ => 9001 - (intOf iv).toNat)
  case atStart => exact ⟨0, [], by omega, rfl, Lib.hid rfl, G4⟩
  case round =>
  obtain ⟨i, ys, hi, rfl, YS, G⟩ := hrel
  clear G4
  have hyl : ys.length ≤ 9000 := by rw [YS.out, List.length_map, List.length_take]; omega
  obtain ⟨oa, oc, rfl⟩ := own_is (G.get 3 rfl)
  by_cases hlt : i < c.things.length
  · have hlt' : (i : Int) < (c.things.length : Int) := by omega
    obtain ⟨x, hx⟩ : ∃ x, c.things[i]? = some x := ⟨c.things[i], by simp [hlt]⟩
    obtain ⟨g, off, hgg, -, -, -, hcell, -⟩ := own_atV (G.get 1 rfl) (by omega)
    cases hgg
    have hx3 := flat3 _ _ _ hx
    have c0 := hcell _ _ hx3.1
    have c1 := hcell _ _ hx3.2.1
    have c2 := hcell _ _ hx3.2.2
    rw [← Nat.add_assoc] at c1 c2
    have OK := Lib.hid (things_ok h x (List.mem_of_getElem? hx))
    obtain ⟨tk, ta, tb⟩ := x
    dsimp only at c0 c1 c2
    have HT := Lib.hid hx
    clear hcell hx hx3
    have GT := G.blkNew #[.int .i64 tk, .int .i64 ta, .int .i64 tb] 48
    clear G
    have GCB := Lib.hid (gComm_bd h ⟨tk, ta, tb⟩ OK.out)
    have hnl := hnd
    go_upto_if 30 with (fail)
    go_cut [9] (fun wv wx => wv = .int .i64 (gBase ⟨tk, ta, tb⟩) ∧ Has w wx [blkC _ w.heap.size (cfgCells c) 28, ownT _ (.slice (some ⟨lg, loff, none⟩) c.things.length lc) c.things, ownN _ 3 .i64 (.slice (some ⟨kg, koff, none⟩) c.cls.length kc) c.cls, ownN _ 56 .u64 (.slice oa ys.length oc) ys, blkC _ wr.heap.size #[.int .i64 tk, .int .i64 ta, .int .i64 tb] 48])
    case first =>
      obtain ⟨t0, t1, t2, ft⟩ := row3 (GT.get 4 rfl)
      by_cases k5 : tk = 5
      · have f5 : (tk == 5) = true := by simpa using k5
        have E := Lib.hid (show gBase ⟨tk, ta, tb⟩ = 1 by simp [gBase, k5])
        clear k5
        go_wp2_with fail
        go_meet
        exact ⟨by rw [E.out], GT⟩
      · have f5 : (tk == 5) = false := by simpa using k5
        have E := Lib.hid (show gBase ⟨tk, ta, tb⟩ = 0 by simp [gBase, k5])
        clear k5
        go_wp2_with fail
        go_meet
        exact ⟨by rw [E.out], GT⟩
    case rest =>
    obtain ⟨rfl, GA⟩ := hcut
    clear GT
    go_upto_region 12 with (fail)
    go_cut [39] (fun bv wx => bv = .bool (decide (tk = 12) && decide (ta < c.mn)) ∧ Has w wx [blkC _ w.heap.size (cfgCells c) 28, ownT _ (.slice (some ⟨lg, loff, none⟩) c.things.length lc) c.things, ownN _ 3 .i64 (.slice (some ⟨kg, koff, none⟩) c.cls.length kc) c.cls, ownN _ 56 .u64 (.slice oa ys.length oc) ys, blkC _ wr.heap.size #[.int .i64 tk, .int .i64 ta, .int .i64 tb] 48])
    case first =>
      obtain ⟨t0, t1, t2, ft⟩ := row3 (GA.get 4 rfl)
      by_cases q1 : tk = 12
      · have f1 : (tk == 12) = true := by simpa using q1
        by_cases q2 : ta < c.mn
        · have f2 : decide (ta < c.mn) = true := by simp; omega
          have E := Lib.hid (show (decide (tk = 12) && decide (ta < c.mn)) = true by simp [q1, q2])
          clear q1
          go_wp2_with fail
          go_meet
          exact ⟨by rw [E.out], GA⟩
        · have f2 : decide (ta < c.mn) = false := by simp; omega
          have E := Lib.hid (show (decide (tk = 12) && decide (ta < c.mn)) = false by simp [q2])
          clear q1
          go_wp2_with fail
          go_meet
          exact ⟨by rw [E.out], GA⟩
      · have f1 : (tk == 12) = false := by simpa using q1
        have E := Lib.hid (show (decide (tk = 12) && decide (ta < c.mn)) = false by simp [q1])
        clear q1
        go_wp2_with fail
        go_meet
        exact ⟨by rw [E.out], GA⟩
    case rest =>
    obtain ⟨rfl, GBx⟩ := hcut
    clear GA
    obtain ⟨B39, hB39⟩ : ∃ B, B = (decide (tk = 12) && decide (ta < c.mn)) := ⟨_, rfl⟩
    rw [← hB39]
    have HB39 := Lib.hid hB39
    clear hB39
    go_upto_if 39 with (fail)
    go_cut [9] (fun wv wx => wv = .int .i64 (gLink (c.mn - 1) ⟨tk, ta, tb⟩) ∧ Has w wx [blkC _ w.heap.size (cfgCells c) 28, ownT _ (.slice (some ⟨lg, loff, none⟩) c.things.length lc) c.things, ownN _ 3 .i64 (.slice (some ⟨kg, koff, none⟩) c.cls.length kc) c.cls, ownN _ 56 .u64 (.slice oa ys.length oc) ys, blkC _ wr.heap.size #[.int .i64 tk, .int .i64 ta, .int .i64 tb] 48])
    case first =>
      obtain ⟨t0, t1, t2, ft⟩ := row3 (GBx.get 4 rfl)
      cases B39 with
      | true =>
        have E := Lib.hid (show gLink (c.mn - 1) ⟨tk, ta, tb⟩ = ta + 1 by have q := HB39.out; simp at q; unfold gLink; rw [if_pos ⟨q.1, by dsimp only; omega⟩])
        have hs : IntKind.i64.wrap (ta + 1) = ta + 1 := wrapi64_id _ (by have q := HB39.out; simp at q; have := OK.out.pack q.1; dsimp only at this; omega) (by have q := HB39.out; simp at q; omega)
        go_wp2_with fail
        go_meet
        exact ⟨by rw [E.out], by first | exact GBx | exact GBx.drewN _⟩
      | false =>
        have E := Lib.hid (show gLink (c.mn - 1) ⟨tk, ta, tb⟩ = gBase ⟨tk, ta, tb⟩ by have q := HB39.out; simp at q; unfold gLink; rw [if_neg (fun r => by have := q r.1; have r2 := r.2; dsimp only at r2; omega)])
        go_wp2_with fail
        go_meet
        exact ⟨by rw [E.out], GBx⟩
    case rest =>
    obtain ⟨rfl, GC⟩ := hcut
    clear GBx
    go_upto_region 14 with (fail)
    go_cut [52] (fun bv wx => bv = .bool (decide (ta = c.nd) && decide (tk = 15)) ∧ Has w wx [blkC _ w.heap.size (cfgCells c) 28, ownT _ (.slice (some ⟨lg, loff, none⟩) c.things.length lc) c.things, ownN _ 3 .i64 (.slice (some ⟨kg, koff, none⟩) c.cls.length kc) c.cls, ownN _ 56 .u64 (.slice oa ys.length oc) ys, blkC _ wr.heap.size #[.int .i64 tk, .int .i64 ta, .int .i64 tb] 48])
    case first =>
      obtain ⟨t0, t1, t2, ft⟩ := row3 (GC.get 4 rfl)
      by_cases q1 : ta = c.nd
      · have f1 : (ta == (c.cls.length : Int)) = true := by have := CL.out; simp; omega
        by_cases q2 : tk = 15
        · have f2 : (tk == 15) = true := by simpa using q2
          have E := Lib.hid (show (decide (ta = c.nd) && decide (tk = 15)) = true by simp [q1, q2])
          clear q1
          go_wp2_with fail
          go_meet
          exact ⟨by rw [E.out], GC⟩
        · have f2 : (tk == 15) = false := by simpa using q2
          have E := Lib.hid (show (decide (ta = c.nd) && decide (tk = 15)) = false by simp [q2])
          clear q1
          go_wp2_with fail
          go_meet
          exact ⟨by rw [E.out], GC⟩
      · have f1 : (ta == (c.cls.length : Int)) = false := by have := CL.out; simp; omega
        have E := Lib.hid (show (decide (ta = c.nd) && decide (tk = 15)) = false by simp [q1])
        clear q1
        go_wp2_with fail
        go_meet
        exact ⟨by rw [E.out], GC⟩
    case rest =>
    obtain ⟨rfl, GD⟩ := hcut
    clear GC
    obtain ⟨B52, hB52⟩ : ∃ B, B = (decide (ta = c.nd) && decide (tk = 15)) := ⟨_, rfl⟩
    rw [← hB52]
    have HB52 := Lib.hid hB52
    clear hB52
    go_upto_if 52 with (fail)
    go_cut [9] (fun wv wx => wv = .int .i64 (gC3 c ⟨tk, ta, tb⟩) ∧ Has w wx [blkC _ w.heap.size (cfgCells c) 28, ownT _ (.slice (some ⟨lg, loff, none⟩) c.things.length lc) c.things, ownN _ 3 .i64 (.slice (some ⟨kg, koff, none⟩) c.cls.length kc) c.cls, ownN _ 56 .u64 (.slice oa ys.length oc) ys, blkC _ wr.heap.size #[.int .i64 tk, .int .i64 ta, .int .i64 tb] 48])
    case first =>
      obtain ⟨t0, t1, t2, ft⟩ := row3 (GD.get 4 rfl)
      cases B52 with
      | true =>
        have E := Lib.hid (show gC3 c ⟨tk, ta, tb⟩ = 1 by have q := HB52.out; simp at q; unfold gC3; rw [if_pos ⟨q.2, q.1⟩])
        go_wp2_with fail
        go_meet
        exact ⟨by rw [E.out], by first | exact GD | exact GD.drewN _⟩
      | false =>
        have E := Lib.hid (show gC3 c ⟨tk, ta, tb⟩ = gLink (c.mn - 1) ⟨tk, ta, tb⟩ by have q := HB52.out; simp at q; unfold gC3; rw [if_neg (fun r => q r.2 r.1)])
        go_wp2_with fail
        go_meet
        exact ⟨by rw [E.out], GD⟩
    case rest =>
    obtain ⟨rfl, GE⟩ := hcut
    clear GD
    go_upto_region 16 with (fail)
    go_cut [62] (fun bv wx => bv = .bool (decide (ta = c.nd) && decide (tk = 14)) ∧ Has w wx [blkC _ w.heap.size (cfgCells c) 28, ownT _ (.slice (some ⟨lg, loff, none⟩) c.things.length lc) c.things, ownN _ 3 .i64 (.slice (some ⟨kg, koff, none⟩) c.cls.length kc) c.cls, ownN _ 56 .u64 (.slice oa ys.length oc) ys, blkC _ wr.heap.size #[.int .i64 tk, .int .i64 ta, .int .i64 tb] 48])
    case first =>
      obtain ⟨t0, t1, t2, ft⟩ := row3 (GE.get 4 rfl)
      by_cases q1 : ta = c.nd
      · have f1 : (ta == (c.cls.length : Int)) = true := by have := CL.out; simp; omega
        by_cases q2 : tk = 14
        · have f2 : (tk == 14) = true := by simpa using q2
          have E := Lib.hid (show (decide (ta = c.nd) && decide (tk = 14)) = true by simp [q1, q2])
          clear q1
          go_wp2_with fail
          go_meet
          exact ⟨by rw [E.out], GE⟩
        · have f2 : (tk == 14) = false := by simpa using q2
          have E := Lib.hid (show (decide (ta = c.nd) && decide (tk = 14)) = false by simp [q2])
          clear q1
          go_wp2_with fail
          go_meet
          exact ⟨by rw [E.out], GE⟩
      · have f1 : (ta == (c.cls.length : Int)) = false := by have := CL.out; simp; omega
        have E := Lib.hid (show (decide (ta = c.nd) && decide (tk = 14)) = false by simp [q1])
        clear q1
        go_wp2_with fail
        go_meet
        exact ⟨by rw [E.out], GE⟩
    case rest =>
    obtain ⟨rfl, GF'⟩ := hcut
    clear GE
    obtain ⟨B62, hB62⟩ : ∃ B, B = (decide (ta = c.nd) && decide (tk = 14)) := ⟨_, rfl⟩
    rw [← hB62]
    have HB62 := Lib.hid hB62
    clear hB62
    go_upto_if 62 with (fail)
    go_cut [9] (fun wv wx => wv = .int .i64 (gComm c ⟨tk, ta, tb⟩) ∧ Has w wx [blkC _ w.heap.size (cfgCells c) 28, ownT _ (.slice (some ⟨lg, loff, none⟩) c.things.length lc) c.things, ownN _ 3 .i64 (.slice (some ⟨kg, koff, none⟩) c.cls.length kc) c.cls, ownN _ 56 .u64 (.slice oa ys.length oc) ys, blkC _ wr.heap.size #[.int .i64 tk, .int .i64 ta, .int .i64 tb] 48])
    case first =>
      obtain ⟨t0, t1, t2, ft⟩ := row3 (GF'.get 4 rfl)
      cases B62 with
      | true =>
        have E := Lib.hid (show gComm c ⟨tk, ta, tb⟩ = c.roomAt c.nd by have q := HB62.out; simp at q; unfold gComm; rw [if_pos ⟨q.2, q.1⟩])
        obtain ⟨n, hn⟩ : ∃ n : Nat, c.nd = (n : Int) + 1 := ⟨(c.nd - 1).toNat, by omega⟩
        obtain ⟨g', off', hgg, -, -, -, hcell, -⟩ := own_atV (GF'.get 2 rfl) (by have := CL.out; omega)
        cases hgg
        have hcv := hcell n (.int .i64 (c.clsAt ((n : Int) + 1))) (by rw [List.getElem?_map, cls_get1 n (by omega)]; rfl)
        have SL := Lib.hid (show sSlots (c.clsAt ((n : Int) + 1)) = c.roomAt c.nd by rw [room_cls1 n (by omega), hn])
        have hln : (c.cls.length : Int) - 1 = (n : Int) := by have := CL.out; omega
        have hlw : IntKind.i64.wrap ((c.cls.length : Int) - 1) = (n : Int) := by rw [wrapi64_id _ (by omega) (by omega)]; exact hln
        have hnl2 : (n : Int) < (c.cls.length : Int) := by omega
        clear hcell hn
        go_wp2_with fail
        refine (RSlots_c _ _).mono ?_
        rw [SL.out]
        rintro e w8 ⟨rfl, d8, rfl⟩
        go_wp2_with fail
        go_meet
        exact ⟨by rw [E.out], by first | exact GF' | exact GF'.drewN _⟩
      | false =>
        have E := Lib.hid (show gComm c ⟨tk, ta, tb⟩ = gC3 c ⟨tk, ta, tb⟩ by have q := HB62.out; simp at q; unfold gComm; rw [if_neg (fun r => q r.2 r.1)]; rfl)
        go_wp2_with fail
        go_meet
        exact ⟨by rw [E.out], GF'⟩
    case rest =>
    obtain ⟨rfl, HH⟩ := hcut
    clear GF'
    clear c0 c1 c2
    have GB := GCB.out
    by_cases k7 : tk = 7
    · subst k7
      have G00 := Lib.hid (show gComm c ⟨7, ta, tb⟩ = 0 by simp [gComm, gLink, gBase])
      have GF := Lib.hid (show gFirst c ⟨7, ta, tb⟩ = lst c ta 0 (c.nd - 1).toNat by simp [gFirst, gNext])
      go_wp2_with fail
      go_loopw [9, 10] (fun wv vv wr' => ∃ (v k : Nat) (X : Int), (v : Int) + k + 1 ≤ c.nd ∧ c.nd ≤ (v : Int) + k + 1 ∧ vv = .int .i64 v ∧ wv = .int .i64 X ∧ 0 ≤ X ∧ X ≤ 2000 ∧ Hid (X = lst c ta 0 k) ∧ Has w wr' [blkC _ w.heap.size (cfgCells c) 28, ownT _ (.slice (some ⟨lg, loff, none⟩) c.things.length lc) c.things, ownN _ 3 .i64 (.slice (some ⟨kg, koff, none⟩) c.cls.length kc) c.cls, ownN _ 56 .u64 (.slice oa ys.length oc) ys, blkC _ wr.heap.size #[.int .i64 7, .int .i64 ta, .int .i64 tb] 48]) (fun _ vv _ => (intOf vv).toNat)
      case atStart => exact ⟨(c.nd - 1).toNat, 0, 0, by omega, by omega, by congr 1; have := CL.out; omega, by rw [G00.out], by omega, by omega, Lib.hid rfl, HH⟩
      case round =>
        obtain ⟨v, k, X, hv1, hv2, rfl, rfl, hX0, hX1, HX, H⟩ := hrel
        clear HH
        by_cases hlt2 : 1 ≤ v
        · skip
          obtain ⟨v, rfl⟩ : ∃ v' : Nat, v = v' + 1 := ⟨v - 1, by omega⟩
          have hvl : (v : Int) < (c.cls.length : Int) := by have := CL.out; omega
          have ev : ((v + 1 : Nat) : Int) = (v : Int) + 1 := by omega
          have hv0 : (1 : Int) ≤ (v : Int) + 1 := by omega
          rw [ev]
          obtain ⟨y0, y1, y2, fy⟩ := row3 (H.get 4 rfl)
          obtain ⟨g', off', hgg, -, -, -, hcell, -⟩ := own_atV (H.get 2 rfl) (by have := CL.out; omega)
          cases hgg
          have hcv := hcell v (.int .i64 (c.clsAt ((v : Int) + 1))) (by rw [List.getElem?_map, cls_get1 v (by have := CL.out; omega)]; rfl)
          have ND := Lib.hid (show c.nd - ((k + 1 : Nat) : Int) = (v : Int) + 1 by omega)
          clear hcell
          by_cases hq : c.clsAt ((v : Int) + 1) = ta
          · have hqb : (c.clsAt ((v : Int) + 1) == ta) = true := by simpa using hq
            have HQ := Lib.hid hq
            clear hq
            go_wp2_with fail
            go_quiet (fail)
            go_wp2_with fail
            go_roundw
            case rel => exact ⟨v, k + 1, ((v : Int) + 1), by omega, by omega, by first | rfl | go_num, rfl, by omega, by omega, Lib.hid (by simp only [lst]; rw [ND.out, if_pos ⟨HQ.out, by omega⟩]), by first | exact H.drewN _ | exact H⟩
            case measure => first | (simp [intOf]; done) | (simp [intOf]; omega) | (simp [intOf]; have := HVV.out; omega)
          · have hqb : (c.clsAt ((v : Int) + 1) == ta) = false := by simpa using hq
            have HQ := Lib.hid hq
            clear hq
            go_wp2_with fail
            go_quiet (fail)
            go_wp2_with fail
            go_roundw
            case rel => exact ⟨v, k + 1, X, by omega, by omega, by first | rfl | go_num, rfl, by omega, by omega, Lib.hid (by simp only [lst]; rw [ND.out, if_neg (fun r => HQ.out r.1)]; exact HX.out), by first | exact H.drewN _ | exact H⟩
            case measure => first | (simp [intOf]; done) | (simp [intOf]; omega) | (simp [intOf]; have := HVV.out; omega)
        · have hge : ¬ (1 : Int) ≤ (v : Int) := by omega
          have hx : IntKind.u64.wrap X = X := by rw [IntKind.wrap_u64]; omega
          have EX : Hid (gFirst c ⟨7, ta, tb⟩ = X) := Lib.hid (by
            have ek : k = (c.nd - 1).toNat := by omega
            have := HX.out
            (try rw [ek] at this)
            rw [this]
            exact GF.out)
          go_wp2_with (at_builtin; refine wpl_app H 3 rfl (.tmp 116) (.tmp 119) rfl el_u64m rfl (by decide) (by decide) rfl rfl [.int .u64 X] rfl rfl (by simp [Value.oneCell']) (by omega) ?_; intro v1 w1 Gq; rw [ownN_app] at Gq)
          go_roundw
          case rel =>
            exact ⟨i + 1, _, by omega, by go_num, Lib.hid (by rw [YS.out, take_snoc1 _ _ _ HT.out, List.map_append, List.map_cons, List.map_nil, EX.out]), Gq.pick [0, 1, 2, 3] (by decide) (by simp)⟩
          case measure => first | (simp [intOf]; done) | (simp [intOf]; omega) | (simp [intOf]; have := HVV.out; omega)
    by_cases k17 : tk = 17
    · subst k17
      have hta := OK.out.node (by dsimp only; omega)
      dsimp only at hta
      obtain ⟨an, han⟩ : ∃ an : Nat, ta = (an : Int) + 1 := ⟨(ta - 1).toNat, by omega⟩
      have ATA := Lib.hid han
      have hal : (an : Int) < (c.cls.length : Int) := by have := CL.out; omega
      have haw : IntKind.i64.wrap (ta - 1) = (an : Int) := by rw [wrapi64_id _ (by omega) (by omega)]; omega
      clear han
      have G00 := Lib.hid (show gComm c ⟨17, ta, tb⟩ = 0 by simp [gComm, gLink, gBase])
      have GF : Hid (gFirst c ⟨17, ta, tb⟩ = lst c (c.clsAt ta) ta (c.nd - 1).toNat) := Lib.hid (by
        unfold gFirst gNext
        rw [if_neg (by dsimp only; omega)]
        by_cases q : ta < c.nd
        · rw [if_pos ⟨rfl, by dsimp only; omega, q⟩]
        · rw [if_neg (fun r => q r.2.2), G00.out, lst_hi c _ _ (by omega)])
      go_wp2_with fail
      go_loopw [9, 10] (fun wv vv wr' => ∃ (v k : Nat) (X : Int), (v : Int) + k + 1 ≤ c.nd ∧ c.nd ≤ (v : Int) + k + 1 ∧ vv = .int .i64 v ∧ wv = .int .i64 X ∧ 0 ≤ X ∧ X ≤ 2000 ∧ Hid (X = lst c (c.clsAt ta) ta k) ∧ Has w wr' [blkC _ w.heap.size (cfgCells c) 28, ownT _ (.slice (some ⟨lg, loff, none⟩) c.things.length lc) c.things, ownN _ 3 .i64 (.slice (some ⟨kg, koff, none⟩) c.cls.length kc) c.cls, ownN _ 56 .u64 (.slice oa ys.length oc) ys, blkC _ wr.heap.size #[.int .i64 17, .int .i64 ta, .int .i64 tb] 48]) (fun _ vv _ => (intOf vv).toNat)
      case atStart => exact ⟨(c.nd - 1).toNat, 0, 0, by omega, by omega, by congr 1; have := CL.out; omega, by rw [G00.out], by omega, by omega, Lib.hid rfl, HH⟩
      case round =>
        obtain ⟨v, k, X, hv1, hv2, rfl, rfl, hX0, hX1, HX, H⟩ := hrel
        clear HH
        by_cases hlt2 : 1 ≤ v
        · skip
          obtain ⟨v, rfl⟩ : ∃ v' : Nat, v = v' + 1 := ⟨v - 1, by omega⟩
          have hvl : (v : Int) < (c.cls.length : Int) := by have := CL.out; omega
          have hv59 : v ≤ 59 := by omega
          have ev : ((v + 1 : Nat) : Int) = (v : Int) + 1 := by omega
          have hv0 : (1 : Int) ≤ (v : Int) + 1 := by omega
          obtain ⟨V, hV⟩ : ∃ V, V = (v : Int) + 1 := ⟨_, rfl⟩
          rw [ev, ← hV]
          have hVw : IntKind.i64.wrap (V - 1) = (v : Int) := by rw [hV, wrapi64_id _ (by omega) (by omega)]; omega
          have hV1 : 1 ≤ V := by omega
          have HVV := Lib.hid hV
          obtain ⟨y0, y1, y2, fy⟩ := row3 (H.get 4 rfl)
          obtain ⟨g', off', hgg, -, -, -, hcell, -⟩ := own_atV (H.get 2 rfl) (by have := CL.out; omega)
          cases hgg
          have hcv := hcell v (.int .i64 (c.clsAt ((v : Int) + 1))) (by rw [List.getElem?_map, cls_get1 v (by have := CL.out; omega)]; rfl)
          rw [← hV] at hcv hv0
          have ND := Lib.hid (show c.nd - ((k + 1 : Nat) : Int) = V by omega)
          clear hV ev
          have hca := hcell an (.int .i64 (c.clsAt ta)) (by rw [List.getElem?_map, cls_get1 an (by have := CL.out; omega), ← ATA.out]; rfl)
          clear hcell
          by_cases hlo : ta < V
          · have hlb : decide (ta < V) = true := by simp; exact hlo
            by_cases hq : c.clsAt V = c.clsAt ta
            · have hqb : (c.clsAt V == c.clsAt ta) = true := by simpa using hq
              have HQ := Lib.hid hq
              clear hq
              go_wp2_with fail
              go_quiet (fail)
              go_wp2_with fail
              go_roundw
              case rel => exact ⟨v, k + 1, V, by omega, by omega, by first | rfl | go_num | (rw [hVw]) | (congr 1; have := HVV.out; omega), rfl, by omega, by (have := HVV.out; omega), Lib.hid (by simp only [lst]; rw [ND.out, if_pos ⟨HQ.out, by omega⟩]), by first | exact H.drewN _ | exact H⟩
              case measure => first | (simp [intOf]; done) | (simp [intOf]; omega) | (simp [intOf]; have := HVV.out; omega)
            · have hqb : (c.clsAt V == c.clsAt ta) = false := by simpa using hq
              have HQ := Lib.hid hq
              clear hq
              go_wp2_with fail
              go_quiet (fail)
              go_wp2_with fail
              go_roundw
              case rel => exact ⟨v, k + 1, X, by omega, by omega, by first | rfl | go_num | (rw [hVw]) | (congr 1; have := HVV.out; omega), rfl, by omega, by omega, Lib.hid (by simp only [lst]; rw [ND.out, if_neg (fun r => HQ.out r.1)]; exact HX.out), by first | exact H.drewN _ | exact H⟩
              case measure => first | (simp [intOf]; done) | (simp [intOf]; omega) | (simp [intOf]; have := HVV.out; omega)
          · have hlb : decide (ta < V) = false := by simp; omega
            go_wp2_with fail
            go_quiet (fail)
            go_wp2_with fail
            go_roundw
            case rel => exact ⟨v, k + 1, X, by omega, by omega, by first | rfl | go_num | (rw [hVw]) | (congr 1; have := HVV.out; omega), rfl, by omega, by omega, Lib.hid (by simp only [lst]; rw [ND.out, if_neg (fun r => by have := r.2; omega)]; exact HX.out), by first | exact H.drewN _ | exact H⟩
            case measure => first | (simp [intOf]; done) | (simp [intOf]; omega) | (simp [intOf]; have := HVV.out; omega)
        · have hge : ¬ (1 : Int) ≤ (v : Int) := by omega
          have hx : IntKind.u64.wrap X = X := by rw [IntKind.wrap_u64]; omega
          have EX : Hid (gFirst c ⟨17, ta, tb⟩ = X) := Lib.hid (by
            have ek : k = (c.nd - 1).toNat := by omega
            have := HX.out
            (try rw [ek] at this)
            rw [this]
            exact GF.out)
          go_wp2_with (at_builtin; refine wpl_app H 3 rfl (.tmp 116) (.tmp 119) rfl el_u64m rfl (by decide) (by decide) rfl rfl [.int .u64 X] rfl rfl (by simp [Value.oneCell']) (by omega) ?_; intro v1 w1 Gq; rw [ownN_app] at Gq)
          go_roundw
          case rel =>
            exact ⟨i + 1, _, by omega, by go_num, Lib.hid (by rw [YS.out, take_snoc1 _ _ _ HT.out, List.map_append, List.map_cons, List.map_nil, EX.out]), Gq.pick [0, 1, 2, 3] (by decide) (by simp)⟩
          case measure => first | (simp [intOf]; done) | (simp [intOf]; omega) | (simp [intOf]; have := HVV.out; omega)
    · skip
      have f7 : (tk == 7) = false := by simpa using k7
      have f17 : (tk == 17) = false := by simpa using k17
      have GF := Lib.hid (show gFirst c ⟨tk, ta, tb⟩ = gComm c ⟨tk, ta, tb⟩ by unfold gFirst gNext; rw [if_neg k7, if_neg (fun r => k17 r.1)])
      go_wp2_with fail
      go_loopw [9, 10] (fun wv vv wr' => ∃ (v k : Nat) (X : Int), (v : Int) + k + 1 ≤ c.nd ∧ c.nd ≤ (v : Int) + k + 1 ∧ vv = .int .i64 v ∧ wv = .int .i64 X ∧ 0 ≤ X ∧ X ≤ 2000 ∧ Hid (X = gComm c ⟨tk, ta, tb⟩) ∧ Has w wr' [blkC _ w.heap.size (cfgCells c) 28, ownT _ (.slice (some ⟨lg, loff, none⟩) c.things.length lc) c.things, ownN _ 3 .i64 (.slice (some ⟨kg, koff, none⟩) c.cls.length kc) c.cls, ownN _ 56 .u64 (.slice oa ys.length oc) ys, blkC _ wr.heap.size #[.int .i64 tk, .int .i64 ta, .int .i64 tb] 48]) (fun _ vv _ => (intOf vv).toNat)
      case atStart => exact ⟨(c.nd - 1).toNat, 0, gComm c ⟨tk, ta, tb⟩, by omega, by omega, by congr 1; have := CL.out; omega, rfl, GB.1, GB.2, Lib.hid rfl, HH⟩
      case round =>
        obtain ⟨v, k, X, hv1, hv2, rfl, rfl, hX0, hX1, HX, H⟩ := hrel
        clear HH
        by_cases hlt2 : 1 ≤ v
        · skip
          obtain ⟨v, rfl⟩ : ∃ v' : Nat, v = v' + 1 := ⟨v - 1, by omega⟩
          have hvl : (v : Int) < (c.cls.length : Int) := by have := CL.out; omega
          have ev : ((v + 1 : Nat) : Int) = (v : Int) + 1 := by omega
          have hv0 : (1 : Int) ≤ (v : Int) + 1 := by omega
          rw [ev]
          obtain ⟨y0, y1, y2, fy⟩ := row3 (H.get 4 rfl)
          obtain ⟨g', off', hgg, -, -, -, hcell, -⟩ := own_atV (H.get 2 rfl) (by have := CL.out; omega)
          cases hgg
          have hcv := hcell v (.int .i64 (c.clsAt ((v : Int) + 1))) (by rw [List.getElem?_map, cls_get1 v (by have := CL.out; omega)]; rfl)
          have ND := Lib.hid (show c.nd - ((k + 1 : Nat) : Int) = (v : Int) + 1 by omega)
          clear hcell
          go_wp2_with fail
          go_quiet (fail)
          go_wp2_with fail
          go_roundw
          case rel => exact ⟨v, k + 1, X, by omega, by omega, by first | rfl | go_num, rfl, by omega, by omega, Lib.hid (by exact HX.out), by first | exact H.drewN _ | exact H⟩
          case measure => first | (simp [intOf]; done) | (simp [intOf]; omega) | (simp [intOf]; have := HVV.out; omega)
        · have hge : ¬ (1 : Int) ≤ (v : Int) := by omega
          have hx : IntKind.u64.wrap X = X := by rw [IntKind.wrap_u64]; omega
          have EX : Hid (gFirst c ⟨tk, ta, tb⟩ = X) := Lib.hid (by
            have ek : k = (c.nd - 1).toNat := by omega
            have := HX.out
            (try rw [ek] at this)
            rw [this]
            exact GF.out)
          go_wp2_with (at_builtin; refine wpl_app H 3 rfl (.tmp 116) (.tmp 119) rfl el_u64m rfl (by decide) (by decide) rfl rfl [.int .u64 X] rfl rfl (by simp [Value.oneCell']) (by omega) ?_; intro v1 w1 Gq; rw [ownN_app] at Gq)
          go_roundw
          case rel =>
            exact ⟨i + 1, _, by omega, by go_num, Lib.hid (by rw [YS.out, take_snoc1 _ _ _ HT.out, List.map_append, List.map_cons, List.map_nil, EX.out]), Gq.pick [0, 1, 2, 3] (by decide) (by simp)⟩
          case measure => first | (simp [intOf]; done) | (simp [intOf]; omega) | (simp [intOf]; have := HVV.out; omega)
  · have hge : ¬ (i : Int) < (c.things.length : Int) := by omega
    have hfull : ys = c.things.map (gFirst c) := by rw [YS.out, List.take_of_length_le (by omega)]
    have FF := Lib.hid hfull
    clear hfull
    go_wp2_with fail
    go_ret
    exact ⟨_, rfl, by rw [← FF.out]; exact H0.joinOwn G 3 rfl⟩

end Go.Proofs.Ytjfemakkjfpdhaa
