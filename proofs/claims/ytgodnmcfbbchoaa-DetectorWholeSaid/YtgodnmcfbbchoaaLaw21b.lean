/- The walk of DetectorWhole: it answers true, and nothing that was there is changed. No condition but that the arguments can be read. -/
import Derived.Test.YtgodnmcfbbchoaaAw21
import Derived.Test.YtgodnmcfbbchoaaMeth21
import Derived.Test.YtgodnmcfbbchoaaDt21q
set_option linter.unusedVariables false
set_option linter.unusedSimpArgs false
namespace Go.Proofs.Ytgodnmcfbbchoaa
open Go.ChangeShapes Go.WideShapes Go.ChangeAt Go.RowKit

/-- What holds within a cycle: k cycles are over, j steps of this one. -/
structure WhA (c : Cfg) (k j : Nat) (l : List Int) (x : Dt) : Prop where
  ok : DtOk c x
  len : 6 + c.mu ≤ (l.length : Int)
  work : mld l 1 = 0
  pos : (j : Int) < 11 + 3 * c.mu → dtPos c x = j
  beg : j = 0 → x.doing = 0 ∧ x.cy = k
  mid : 0 < j → x.cy = (k : Int) + 1
  some_ : 0 < j → (j : Int) < 11 + 3 * c.mu → x.doing ≠ 0
  fin : (j : Int) = 11 + 3 * c.mu → x.doing = 0 ∧ mld l 0 = wPhase ((k : Int) + 1) 0

theorem wh_cy {c : Cfg} {k j : Nat} {l : List Int} {x : Dt} (T : WhA c k j l x) : 0 ≤ x.cy ∧ x.cy ≤ (k : Int) + 1 := by
  by_cases q : j = 0
  · rw [(T.beg q).2]; omega
  · rw [T.mid (by omega)]; omega

theorem wh_0 {c : Cfg} (h : CfgOk c) {l : List Int} {k : Nat} {x : Dt} (ok : DtOk c x) (hd : x.doing = 0) (hc : x.cy = k) (hw : mld l 1 = 0) (hl : 6 + c.mu ≤ (l.length : Int)) : WhA c k 0 l x := by
  have hmu := h.mu
  refine ⟨ok, hl, hw, fun _ => ?_, fun _ => ⟨hd, hc⟩, fun q => by omega, fun q => by omega, fun q => by omega⟩
  unfold dtPos; rw [hd]; rfl

theorem wh_step {c : Cfg} (h : CfgOk c) {k j : Nat} {l l2 : List Int} {x : Dt} (T : WhA c k j l x) (hj : (j : Int) < 11 + 3 * c.mu) (hl : 6 + c.mu ≤ (l2.length : Int)) (ha : ∀ i, 0 ≤ i → i < c.mu → mld l2 (c.ackAt i) = 3 * (k : Int) + 3) (hw : mld l2 1 = 0) (hdn : x.doing = 12 → mld l2 3 = c.pt) :
    WhA c k (j + 1) (dtStep c l2 x 1).1 (dtStep c l2 x 1).2 := by
  have hcy := wh_cy T
  have hgo := dt_go h l2 x 1 T.ok (fun hd => ⟨fun i h0 h1 => by rw [ha i h0 h1]; omega, hw, hdn⟩) (by decide)
  have hp := T.pos hj
  have hb := pos_bd h T.ok
  obtain ⟨m1, m2⟩ := dt_mem c l2 x 1
  have hcy2 : (dtStep c l2 x 1).2.cy = (k : Int) + 1 := by
    rw [dt_cy]
    by_cases q : j = 0
    · rw [(T.beg q).1, (T.beg q).2]; rfl
    · have hn := T.some_ (by omega) hj
      have : (x.doing == 0) = false := by simpa using hn
      rw [this, T.mid (by omega)]; rfl
  refine ⟨dt_ok h l2 x 1 T.ok, by rw [m1]; exact hl, by rw [m2 _ (by decide) (by decide) (by decide)]; exact hw, fun q => ?_, fun q => by omega, fun _ => hcy2, fun _ q => ?_, fun q => ?_⟩
  · have hn : x.doing ≠ 13 := by
      intro e
      have : dtPos c x = 3 + 3 * c.mu + ((13 : Nat) : Int) - 6 := by unfold dtPos; rw [e]; rfl
      omega
    rw [(hgo.1 hn).1, hp]; omega
  · have hn : x.doing ≠ 13 := by
      intro e
      have : dtPos c x = 3 + 3 * c.mu + ((13 : Nat) : Int) - 6 := by unfold dtPos; rw [e]; rfl
      omega
    exact (hgo.1 hn).2
  · have e13 : x.doing = 13 := pos_doing h T.ok 13 (by omega) (by rw [hp]; omega)
    obtain ⟨g1, g2⟩ := hgo.2 e13
    refine ⟨g1, ?_⟩
    rw [g2, mld_mput_same (by have := h.mu; omega)]
    rw [T.mid (by omega)]

set_option maxRecDepth 100000 in
set_option maxHeartbeats 8000000 in
theorem whole_ok (c : Cfg) (cyc : Int) (w : World) (y0 : 0 ≤ cyc) (y1 : cyc < 256) :
    Calls Try.prog 4 #[cfgV c, .int .u8 cyc] w fun e w' => e = .returned (.bool true) ∧ Below w.heap.size w w' := by
  have n0 := Int.emod_nonneg cyc (by omega : (5 : Int) ≠ 0)
  have n1 := Int.emod_lt_of_pos cyc (by omega : (0 : Int) < 5)
  have e2 : cyc.tmod 5 = cyc % 5 := Int.tmod_eq_emod_of_nonneg y0
  unfold cfgV cfgCells
  go_enter Try.func4, Try.ntmps4
  have G0 := (Has.nil w).blkNew (cfgCells c) 24
  go_wp2_with fail
  refine (awake21 _).mono ?_
  rintro e w1 ⟨rfl, q1⟩
  have G1 := G0.up q1
  obtain ⟨b0, b1, b2, b3, b4, b5, b6, b7, b8, b9, b10, b11, fb⟩ := row12 (G1.get 0 rfl)
  clear G0 q1
  go_wp2_with fail
  refine (small21_c c _).mono ?_
  rintro e w2 ⟨b, rfl, hb, q2⟩
  have G2 := G1.up q2
  clear G1 q2 b0 b1 b2 b3 b4 b5 b6 b7 b8 b9 b10 b11 fb
  have HB := Lib.hid hb
  clear hb
  cases b with
  | false =>
    go_wp2_with fail
    go_ret
    exact ⟨rfl, G2.below⟩
  | true =>
    have h : CfgOk c := (cfgOk_iff c).1 (HB.out rfl)
    obtain ⟨b0, b1, b2, b3, b4, b5, b6, b7, b8, b9, b10, b11, fb⟩ := row12 (G2.get 0 rfl)
    go_wp2_with fail
    refine (New_m G2 c h).mono ?_
    rintro e w3 ⟨mb, av, rv, rfl, G3⟩
    clear G2 b0 b1 b2 b3 b4 b5 b6 b7 b8 b9 b10 b11 fb
    obtain ⟨b0, b1, b2, b3, b4, b5, b6, b7, b8, b9, b10, b11, fb⟩ := row12 (G3.get 0 rfl)
    go_wp2_with fail
    refine (First_h G3 1 rfl h).mono ?_
    rintro e w7 ⟨g, gn, rfl, G7⟩
    have hfr := first_room h
    go_wp2_with fail
    refine (New_h G7 _ c.first (sl_of_ownN (G7.get 2 rfl)) (by omega)).mono ?_
    rintro e w8 ⟨sb, sg, rfl, G8'⟩
    have G8 := G8'.pick [0, 1, 3] (by decide) (by simp)
    clear G3 G7 G8' b0 b1 b2 b3 b4 b5 b6 b7 b8 b9 b10 b11 fb
    go_wp2_with fail
    refine (dtNew_h G8 mb).mono ?_
    rintro e w9 ⟨xb, rfl, G9⟩
    clear G8
    have hmu := h.mu
    obtain ⟨N, hN⟩ : ∃ N : Nat, (N : Int) = cyc % 5 + 1 := ⟨(cyc % 5 + 1).toNat, by omega⟩
    have hNb : N ≤ 5 := by omega
    have hb := cfg_bd h
    have hpt := hb.pt
    have wpt : IntKind.u64.wrap c.pt = c.pt := wrapu64_id _ (by omega) (by omega)
    have HF := Lib.hid (first_lo h 1 (by decide) (by decide))
    have HL := Lib.hid hfr.1
    clear hfr hb
    go_wp2_with fail
    rw [← hN]
    have HN := Lib.hid hN
    clear hN n0 n1 e2
    go_loopw [12, 13, 14] (fun kv u13 u14 wr => ∃ (k : Nat) (l : List Int) (n : Int) (x : Dt), k ≤ N ∧ kv = .int .i64 k ∧ Hid (WhA c k 0 l x) ∧ Has w wr [blkC _ w.heap.size (cfgCells c) 24, mapC _ mb av rv c, storeC _ sb sg l n, dtC _ xb mb x]) (fun kv _ _ _ => 6 - (intOf kv).toNat)
    case atStart => exact ⟨0, c.first, _, d0, by omega, rfl, Lib.hid (wh_0 h (dtOk0 h) rfl rfl HF.out HL.out), G9⟩
    case round =>
    obtain ⟨k, l, n, x, hk, rfl, T, G⟩ := hrel
    clear G9
    obtain ⟨wo, rfl⟩ : ∃ wo : World, wo = wr := ⟨_, rfl⟩
    by_cases hlt : k < N
    · have hlt' : (k : Int) < (N : Int) := by omega
      go_wp2_with fail
      go_loopw [13, 14] (fun jv u14 wr => ∃ (j : Nat) (l : List Int) (n : Int) (x : Dt), (j : Int) ≤ 11 + 3 * c.mu ∧ jv = .int .i64 j ∧ Hid (WhA c k j l x) ∧ Has w wr [blkC _ w.heap.size (cfgCells c) 24, mapC _ mb av rv c, storeC _ sb sg l n, dtC _ xb mb x]) (fun jv _ _ => 25 - (intOf jv).toNat)
      case atStart => exact ⟨0, l, n, x, by show (0 : Int) ≤ _; omega, rfl, T, G⟩
      case round =>
      obtain ⟨j, l2, n2, x2, hj, rfl, T2, G2⟩ := hrel
      clear G T
      obtain ⟨wi, rfl⟩ : ∃ wi : World, wi = wr := ⟨_, rfl⟩
      obtain ⟨b0, b1, b2, b3, b4, b5, b6, b7, b8, b9, b10, b11, fb⟩ := row12 (G2.get 0 rfl)
      by_cases hjl : (j : Int) < 11 + 3 * c.mu
      · go_wp2_with fail
        clear b0 b1 b2 b3 b4 b5 b6 b7 b8 b9 b10 b11 fb
        go_loopw [14] (fun iv wr => ∃ (i : Nat) (n : Int), (i : Int) ≤ c.mu ∧ iv = .int .i64 i ∧ Has w wr [blkC _ w.heap.size (cfgCells c) 24, mapC _ mb av rv c, storeC _ sb sg (ackF c l2 (3 * (k : Int) + 3) i) n, dtC _ xb mb x2]) (fun iv _ => 5 - (intOf iv).toNat)
        case atStart => exact ⟨0, n2, by show (0 : Int) ≤ c.mu; omega, rfl, G2⟩
        case round =>
        obtain ⟨i, n3, hi, rfl, G3⟩ := hrel
        clear G2
        obtain ⟨b0, b1, b2, b3, b4, b5, b6, b7, b8, b9, b10, b11, fb⟩ := row12 (G3.get 0 rfl)
        by_cases hil : (i : Int) < c.mu
        · go_wp2_with fail
          refine (Ack_q (G3.mAt 1 rfl h) i).mono ?_
          rintro e t1 ⟨rfl, e1, rfl⟩
          go_wp2_with fail
          refine (Put_h (G3.drewN _) 2 rfl _ (3 * (k : Int) + 3)).mono ?_
          rintro e t2 ⟨rfl, G4⟩
          go_wp2_with fail
          go_roundw
          case rel => exact ⟨i + 1, _, by omega, by go_num, G4⟩
          case measure => simp [intOf]; omega
        have hige : ¬ (i : Int) < c.mu := hil
        have hin : i = c.mu.toNat := by omega
        have A1 : Hid (∀ q, 0 ≤ q → q < c.mu → mld (ackF c l2 (3 * (k : Int) + 3) i) (c.ackAt q) = 3 * (k : Int) + 3) := Lib.hid (fun q q0 q1 => ackF_at T2.out.len _ i (by omega) q q0 (by omega))
        have A2 : Hid (mld (ackF c l2 (3 * (k : Int) + 3) i) 1 = 0) := Lib.hid (by rw [ackF_far _ _ _ _ (by decide) (by decide)]; exact T2.out.work)
        have A3 : Hid (6 + c.mu ≤ ((ackF c l2 (3 * (k : Int) + 3) i).length : Int)) := Lib.hid (by rw [ackF_len]; exact T2.out.len)
        have CY := wh_cy T2.out
        clear hin
        generalize ackF c l2 (3 * (k : Int) + 3) i = l3 at G3 A1 A2 A3
        obtain ⟨D, hD⟩ : ∃ D : Int, (x2.doing : Int) = D := ⟨_, rfl⟩
        have HD := Lib.hid hD
        clear hD
        have hmid : Hid (0 < j → (D == 0) = false) := Lib.hid (fun q => by have := T2.out.some_ q hjl; have := HD.out; simp; omega)
        by_cases hd12 : D = 12
        · have hb12 : (D == 12) = true := by simpa using hd12
          have HX := Lib.hid hd12
          clear hd12
          go_wp2_with fail
          refine (DoingD_q G3 3 rfl D HD.out).mono ?_
          rintro e t1 ⟨rfl, e1, rfl⟩
          go_wp2_with fail
          refine (Done_q ((G3.drewN _).mAt 1 rfl h)).mono ?_
          rintro e t2 ⟨rfl, e2, rfl⟩
          go_wp2_with fail
          refine (Parts_q ((G3.drewN _).mAt 1 rfl h)).mono ?_
          rintro e t3 ⟨rfl, e3, rfl⟩
          go_wp2_with fail
          refine (Put_h (G3.drewN _) 2 rfl 3 c.pt).mono ?_
          rintro e t4 ⟨rfl, G4⟩
          have W := Lib.hid (wh_step h (l2 := mput l3 3 c.pt) T2.out hjl (by rw [mput_length]; exact A3.out) (fun q q0 q1 => by rw [mld_mput_ne _ _ _ _ (by rw [ackAt_is q q0 q1]; omega)]; exact A1.out q q0 q1) (by rw [mld_mput_ne _ _ _ _ (by decide)]; exact A2.out) (fun _ => mld_mput_same (by have := A3.out; omega) _))
          clear b0 b1 b2 b3 b4 b5 b6 b7 b8 b9 b10 b11 fb
          by_cases hj0 : j = 0
          · obtain rfl : 0 = j := hj0.symm
            have hgz : ¬ (0 : Int) < ((0 : Nat) : Int) := by omega
            go_wp2_with fail
            refine (dtStep_h G4 2 3 1 rfl rfl (by decide) h x2 1 rfl T2.out.ok (by omega) (by decide)).mono ?_
            rintro e t7 ⟨rfl, G7⟩
            go_wp2_with fail
            go_roundw
            case rel => exact ⟨0 + 1, _, _, _, by omega, by go_num, W, G7⟩
            case measure => simp [intOf]
          · have hgz : (0 : Int) < (j : Int) := by omega
            have hm0 := hmid.out (by omega)
            go_wp2_with fail
            refine (DoingD_q G4 3 rfl D HD.out).mono ?_
            rintro e t6 ⟨rfl, e6, rfl⟩
            go_wp2_with fail
            refine (dtStep_h (G4.drewN _) 2 3 1 rfl rfl (by decide) h x2 1 rfl T2.out.ok (by omega) (by decide)).mono ?_
            rintro e t7 ⟨rfl, G7⟩
            go_wp2_with fail
            go_roundw
            case rel => exact ⟨j + 1, _, _, _, by omega, by go_num, W, G7⟩
            case measure => simp [intOf]; omega
        · have hb12 : (D == 12) = false := by simpa using hd12
          have HX := Lib.hid hd12
          clear hd12
          go_wp2_with fail
          refine (DoingD_q G3 3 rfl D HD.out).mono ?_
          rintro e t1 ⟨rfl, e1, rfl⟩
          have G4 := G3.drewN e1
          have W := Lib.hid (wh_step h (l2 := l3) T2.out hjl A3.out A1.out A2.out (fun q => absurd (HD.out.symm.trans (by rw [q]; rfl)) HX.out))
          clear b0 b1 b2 b3 b4 b5 b6 b7 b8 b9 b10 b11 fb
          by_cases hj0 : j = 0
          · obtain rfl : 0 = j := hj0.symm
            have hgz : ¬ (0 : Int) < ((0 : Nat) : Int) := by omega
            go_wp2_with fail
            refine (dtStep_h (G3.drewN _) 2 3 1 rfl rfl (by decide) h x2 1 rfl T2.out.ok (by omega) (by decide)).mono ?_
            rintro e t7 ⟨rfl, G7⟩
            go_wp2_with fail
            go_roundw
            case rel => exact ⟨0 + 1, _, _, _, by omega, by go_num, W, G7⟩
            case measure => simp [intOf]
          · have hgz : (0 : Int) < (j : Int) := by omega
            have hm0 := hmid.out (by omega)
            go_wp2_with fail
            refine (DoingD_q (G3.drewN _) 3 rfl D HD.out).mono ?_
            rintro e t6 ⟨rfl, e6, rfl⟩
            go_wp2_with fail
            refine (dtStep_h (G3.drewN _) 2 3 1 rfl rfl (by decide) h x2 1 rfl T2.out.ok (by omega) (by decide)).mono ?_
            rintro e t7 ⟨rfl, G7⟩
            go_wp2_with fail
            go_roundw
            case rel => exact ⟨j + 1, _, _, _, by omega, by go_num, W, G7⟩
            case measure => simp [intOf]; omega
      · have hjge : ¬ (j : Int) < 11 + 3 * c.mu := hjl
        have F1 := T2.out.fin (by omega)
        have F2 := T2.out.mid (by omega)
        have hc7 : x2.cy < 7 := by omega
        have W0 := Lib.hid (wh_0 (k := k + 1) h T2.out.ok F1.1 (by rw [F2]; omega) T2.out.work T2.out.len)
        have FP := Lib.hid F1.2
        have FD := Lib.hid F1.1
        have FC := Lib.hid F2
        clear F1 F2
        go_wp2_with fail
        refine (DoingD_q G2 3 rfl 0 (by rw [FD.out]; rfl)).mono ?_
        rintro e t1 ⟨rfl, e1, rfl⟩
        go_wp2_with fail
        refine (Cycle_q (G2.drewN _) 3 rfl).mono ?_
        rw [FC.out]
        rintro e t2 ⟨rfl, e2, rfl⟩
        go_wp2_with fail
        refine (Phase_q ((G2.drewN _).mAt 1 rfl h)).mono ?_
        rintro e t3 ⟨rfl, e3, rfl⟩
        go_wp2_with fail
        refine (Load_h (G2.drewN _) 2 rfl 0).mono ?_
        rw [FP.out]
        rintro e t4 ⟨rfl, G4⟩
        go_wp2_with fail
        refine (Phase_c ((k : Int) + 1) 0 (by omega) (by omega) _).mono ?_
        rintro e t5 ⟨rfl, e5, rfl⟩
        go_wp2_with fail
        go_roundw
        case rel => exact ⟨k + 1, l2, _, x2, by omega, by go_num, W0, G4.drewN _⟩
        case measure => simp [intOf]; omega
    · have hge : ¬ (k : Int) < (N : Int) := by omega
      go_wp2_with fail
      go_ret
      exact ⟨rfl, G.below⟩

theorem walk_DetectorWhole (c0 c1 c2 c3 c4 mr mu dq ch bf rt sw : Int) (cyc : Int) (w : World) (y0 : 0 ≤ cyc) (y1 : cyc < 256) :
    Calls Try.prog 4 #[.agg #[.int .i64 c0, .int .i64 c1, .int .i64 c2, .int .i64 c3, .int .i64 c4, .int .i64 mr, .int .i64 mu, .int .i64 dq, .int .i64 ch, .int .i64 bf, .int .i64 rt, .int .i64 sw], .int .u8 cyc] w fun e w' => e = .returned (.bool true) ∧ Below w.heap.size w w' := whole_ok ⟨c0, c1, c2, c3, c4, mr, mu, dq, ch, bf, rt, sw⟩ cyc w y0 y1

end Go.Proofs.Ytgodnmcfbbchoaa
