/- The walk of LayoutCounts. No condition. -/
import Derived.Test.YtjfemakkjfpdhaaLaw5a
import Derived.Test.YtjfemakkjfpdhaaRef5
import Derived.Deep.DeepCutAuto
set_option linter.unusedVariables false
set_option linter.unusedSimpArgs false
namespace Go.Proofs.Ytjfemakkjfpdhaa
open Go.ChangeShapes Go.WideShapes Go.ChangeAt Go.RowKit

theorem cell_drewN5 (w : World) (n : Nat) (a : Addr) : (w.drewN n).cell? a = w.cell? a := rfl
theorem cell_drew5 (w : World) (a : Addr) : w.drew.cell? a = w.cell? a := rfl

theorem cls_get {c : Cfg} (n : Nat) (h : n < c.cls.length) : c.cls[n]? = some (sClass c.c0 c.c1 c.c2 c.c3 c.c4 ((n : Int) + 1)) := by
  have hl := cls_len (c := c)
  have e : c.nd = sNodes c.c0 c.c1 c.c2 c.c3 c.c4 := rfl
  have := cells_class c.c0 c.c1 c.c2 c.c3 c.c4 ((n : Int) + 1) (by omega) (by omega)
  have e2 : ((n : Int) + 1 - 1).toNat = n := by omega
  rw [e2] at this
  exact this

theorem roomAt_cls {c : Cfg} (n : Nat) (h : n < c.cls.length) : c.roomAt ((n : Int) + 1) = sSlots (sClass c.c0 c.c1 c.c2 c.c3 c.c4 ((n : Int) + 1)) := by
  have hl := cls_len (c := c)
  have h1 := room_get (c := c) ((n : Int) + 1) (by omega)
  have e2 : ((n : Int) + 1).toNat - 1 = n := by omega
  rw [e2] at h1
  unfold Cfg.rooms at h1
  rw [List.getElem?_map, cls_get n h] at h1
  exact (Option.some.inj h1).symm

set_option maxRecDepth 100000 in
set_option maxHeartbeats 4000000 in
theorem counts_ok (c : Cfg) (h : CfgOk c) (v j : Int) (hv : -9223372036854775808 ≤ v) (hv' : v ≤ 9223372036854775807) (hj : -9223372036854775808 ≤ j) (hj' : j ≤ 9223372036854775807) (w : World) :
    Calls Try.prog 5 #[cfgV c, .int .i64 v, .int .i64 j] w fun e w' => e = .returned (.bool true) ∧ Below w.heap.size w w' := by
  have hbd := (cfg_bd h).nd
  have hpb := (cfg_bd h).pt
  have hsw := h.sw
  have hok : cfgOk c = true := (cfgOk_iff c).2 h
  have HOK := Lib.hid hok
  clear hok
  unfold cfgV cfgCells
  go_enter Try.func5, Try.ntmps5
  have G0 := (Has.nil w).blkNew (cfgCells c) 24
  go_wp2_with fail
  refine (awake5 _).mono ?_
  rintro e w1 ⟨rfl, q1⟩
  have G1 := G0.up q1
  obtain ⟨b0, b1, b2, b3, b4, b5, b6, b7, b8, b9, b10, b11, fb⟩ := row12 (G1.get 0 rfl)
  clear G0 q1
  go_wp2_with fail
  refine (model_c c _).mono ?_
  rintro e w2 ⟨rfl, q2⟩
  have G2 := G1.up q2
  clear G1 q2 b0 b1 b2 b3 b4 b5 b6 b7 b8 b9 b10 b11 fb
  go_wp2_with fail
  refine (RCheck_c c _).mono ?_
  rw [HOK.out]
  rintro e w3 ⟨rfl, q3⟩
  have G3 := G2.up q3
  have he : errB true = 0 := rfl
  rw [he]
  obtain ⟨b0, b1, b2, b3, b4, b5, b6, b7, b8, b9, b10, b11, fb⟩ := row12 (G3.get 0 rfl)
  clear G2 q3 he
  go_wp2_with fail
  refine (New_m G3 c h).mono ?_
  rintro e w4 ⟨mb, av, rv, rfl, G4⟩
  clear G3 b0 b1 b2 b3 b4 b5 b6 b7 b8 b9 b10 b11 fb
  obtain ⟨b0, b1, b2, b3, b4, b5, b6, b7, b8, b9, b10, b11, fb⟩ := row12 (G4.get 0 rfl)
  go_wp2_with fail
  refine (RAll_h G4 c.c0 c.c1 c.c2 c.c3 c.c4).mono ?_
  rintro e w5 ⟨kv, rfl, G5⟩
  have hcl : cPre [c.c0, c.c1, c.c2, c.c3, c.c4] 5 = c.cls := rfl
  rw [hcl] at G5
  clear hcl G4 b0 b1 b2 b3 b4 b5 b6 b7 b8 b9 b10 b11 fb
  obtain ⟨ka, kc, rfl⟩ := own_is (G5.get 2 rfl)
  have hle := cls_le c
  have CL := Lib.hid (cls_len (c := c))
  go_upto_region 10 with (fail)
  go_cut [40] (fun bv wx => bv = .bool (decide (1 ≤ v) && decide (v ≤ (c.cls.length : Int))) ∧ Has w wx [blkC _ w.heap.size (cfgCells c) 24, mapC _ mb av rv c, ownN _ 3 .i64 (.slice ka c.cls.length kc) c.cls])
  case first =>
    by_cases ha : 1 ≤ v
    · by_cases hb : v ≤ (c.cls.length : Int)
      all_goals
        go_wp2_with fail
        go_meet
        exact ⟨by first | (simp [ha, hb]; done) | (simp; omega), G5⟩
    · go_wp2_with fail
      go_meet
      exact ⟨by first | (simp [ha]; done) | (simp; omega), G5⟩
  case rest =>
  obtain ⟨rfl, G5'⟩ := hcut
  clear G5
  generalize hB : (decide (1 ≤ v) && decide (v ≤ (c.cls.length : Int))) = B
  have HB := Lib.hid hB
  clear hB
  go_upto_if 40 with (fail)
  go_cut [11, 12] (fun cv rv' wx => cv = .int .i64 (sClass c.c0 c.c1 c.c2 c.c3 c.c4 v) ∧ rv' = .int .i64 (c.roomAt v) ∧ Has w wx [blkC _ w.heap.size (cfgCells c) 24, mapC _ mb av rv c, ownN _ 3 .i64 (.slice ka c.cls.length kc) c.cls])
  case first =>
    cases B with
    | true =>
      have hab : 1 ≤ v ∧ v ≤ (c.cls.length : Int) := by have := HB.out; simpa using this
      obtain ⟨ha, hb⟩ := hab
      obtain ⟨n, rfl⟩ : ∃ n : Nat, v = (n : Int) + 1 := ⟨(v - 1).toNat, by omega⟩
      have hx := cls_get (c := c) n (by omega)
      have RR := Lib.hid (roomAt_cls (c := c) n (by omega))
      obtain ⟨x, ex⟩ : ∃ x, x = sClass c.c0 c.c1 c.c2 c.c3 c.c4 ((n : Int) + 1) := ⟨_, rfl⟩
      rw [← ex] at hx
      have EX := Lib.hid ex
      clear ex
      obtain ⟨g, off, hgg, -, -, -, hcell, -⟩ := own_atV (G5'.get 2 rfl) (by omega)
      subst hgg
      have hc := hcell n (.int .i64 x) (by rw [List.getElem?_map, hx]; rfl)
      have hnl : (n : Int) < (c.cls.length : Int) := by omega
      clear hcell hx
      go_wp2_with fail
      refine (RSlots_c x _).mono ?_
      rintro e w6 ⟨rfl, dn, rfl⟩
      go_wp2_with fail
      go_meet
      exact ⟨by rw [EX.out], by rw [RR.out, EX.out], G5'.drewN dn⟩
    | false =>
      have hab : ¬ (1 ≤ v ∧ v ≤ (c.cls.length : Int)) := by have := HB.out; simp at this; omega
      have e1 : sClass c.c0 c.c1 c.c2 c.c3 c.c4 v = -1 := cells_class_no c.c0 c.c1 c.c2 c.c3 c.c4 v (by have := CL.out; have e : c.nd = sNodes c.c0 c.c1 c.c2 c.c3 c.c4 := rfl; omega)
      have e2 : c.roomAt v = 0 := by unfold Cfg.roomAt; rw [if_neg (by have := CL.out; omega)]
      have E1 := Lib.hid e1
      have E2 := Lib.hid e2
      clear e1 e2 hab
      go_wp2_with fail
      go_meet
      exact ⟨by rw [E1.out], by rw [E2.out], G5'⟩
  case rest =>
    obtain ⟨rfl, rfl, G6⟩ := hcut
    clear G5'
    have HPT := Lib.hid (pt_mul c.nd c.sw hsw.1 hbd.1)
    go_wp2_with fail
    go_loopw [13] (fun pv wr => ∃ p : Nat, pv = .int .i64 p ∧ (p : Int) ≤ c.pt ∧ Has w wr [blkC _ w.heap.size (cfgCells c) 24, mapC _ mb av rv c, ownN _ 3 .i64 (.slice ka c.cls.length kc) c.cls]) (fun pv _ => 101 - (intOf pv).toNat)
    case atStart => exact ⟨0, rfl, by omega, G6⟩
    case round =>
      obtain ⟨p, rfl, hp, G⟩ := hrel
      clear G6
      obtain ⟨b0, b1, b2, b3, b4, b5, b6, b7, b8, b9, b10, b11, fb⟩ := row12 (G.get 0 rfl)
      have hm0 : 0 ≤ (p : Int) * c.sw := Int.mul_nonneg (by omega) (by omega)
      have hm1 : (p : Int) * c.sw ≤ 100 * 16 := Int.mul_le_mul (by omega) (by omega) (by omega) (by omega)
      have s1 : IntKind.i64.wrap ((p : Int) * c.sw) = (p : Int) * c.sw := wrapi64_id _ (by omega) (by omega)
      have e0 : (c.nd + c.sw - 1) / c.sw = c.pt := rfl
      by_cases hlt : (p : Int) < c.pt
      · have hless : (p : Int) * c.sw < (c.cls.length : Int) := by
          have := HPT.out
          rw [e0] at this
          have m := Int.mul_le_mul_of_nonneg_right (show (p : Int) ≤ c.pt - 1 by omega) (show 0 ≤ c.sw by omega)
          have := CL.out
          omega
        clear e0
        go_wp2_with fail
        go_roundw
        case rel => exact ⟨p + 1, by go_num, by omega, G⟩
        case measure => simp [intOf]; omega
      · have hpp : (p : Int) = c.pt := by omega
        have hge : ¬ (p : Int) * c.sw < (c.cls.length : Int) := by
          have := HPT.out
          rw [e0] at this
          rw [hpp]
          have := CL.out
          omega
        clear e0
        have PP := Lib.hid hpp
        clear hpp hlt
        go_upto_region 18 with (fail)
        go_cut [63] (fun bv wx => bv = .bool (decide (0 ≤ j) && decide (j < (p : Int))) ∧ Has w wx [blkC _ w.heap.size (cfgCells c) 24, mapC _ mb av rv c, ownN _ 3 .i64 (.slice ka c.cls.length kc) c.cls])
        case first =>
          by_cases ha : 0 ≤ j
          · by_cases hb : j < (p : Int)
            all_goals
              go_wp2_with fail
              go_meet
              exact ⟨by first | (simp [ha, hb]; done) | (simp; omega), G⟩
          · go_wp2_with fail
            go_meet
            exact ⟨by first | (simp [ha]; done) | (simp; omega), G⟩
        case rest =>
        obtain ⟨rfl, G'⟩ := hcut
        clear G b0 b1 b2 b3 b4 b5 b6 b7 b8 b9 b10 b11 fb
        obtain ⟨b0, b1, b2, b3, b4, b5, b6, b7, b8, b9, b10, b11, fb⟩ := row12 (G'.get 0 rfl)
        generalize hB : (decide (0 ≤ j) && decide (j < (p : Int))) = B2
        have HB2 := Lib.hid hB
        clear hB
        go_upto_if 63 with (fail)
        go_cut [14, 15] (fun lv hv wx => lv = .int .i64 (c.partLo j) ∧ hv = .int .i64 (c.partHi j) ∧ Has w wx [blkC _ w.heap.size (cfgCells c) 24, mapC _ mb av rv c, ownN _ 3 .i64 (.slice ka c.cls.length kc) c.cls])
        case first =>
          cases B2 with
          | true =>
            have hab : 0 ≤ j ∧ j < (p : Int) := by have := HB2.out; simpa using this
            obtain ⟨h0, h1⟩ := hab
            have hj0 : 0 ≤ j * c.sw := Int.mul_nonneg h0 (by omega)
            have hj1 : j * c.sw ≤ 100 * 16 := Int.mul_le_mul (by omega) (by omega) (by omega) (by omega)
            have r1 : IntKind.i64.wrap (j * c.sw) = j * c.sw := wrapi64_id _ (by omega) (by omega)
            have e1 : c.partLo j = j * c.sw + 1 := by unfold Cfg.partLo; rw [if_pos ⟨h0, by rw [← PP.out]; exact h1⟩]
            have m2 : (j + 1) * c.sw = j * c.sw + c.sw := by rw [Int.add_mul]; omega
            have e2 : c.partHi j = if j * c.sw + c.sw ≤ (c.cls.length : Int) then j * c.sw + c.sw else (c.cls.length : Int) := by unfold Cfg.partHi; rw [if_pos ⟨h0, by rw [← PP.out]; exact h1⟩, m2, CL.out]
            have E1 := Lib.hid e1
            have E2 := Lib.hid e2
            clear e1 e2 m2
            by_cases hm : j * c.sw + c.sw ≤ (c.cls.length : Int)
            · go_wp2_with fail
              go_meet
              exact ⟨by rw [E1.out], by rw [E2.out, if_pos hm]; go_num, G'⟩
            · go_wp2_with fail
              go_meet
              exact ⟨by rw [E1.out], by rw [E2.out, if_neg (by omega)], G'⟩
          | false =>
            have hab : ¬ (0 ≤ j ∧ j < (p : Int)) := by have := HB2.out; simp at this; omega
            have e1 : c.partLo j = 0 := by unfold Cfg.partLo; rw [if_neg (by rw [← PP.out]; omega)]
            have e2 : c.partHi j = -1 := by unfold Cfg.partHi; rw [if_neg (by rw [← PP.out]; omega)]
            have E1 := Lib.hid e1
            have E2 := Lib.hid e2
            clear e1 e2 hab
            go_wp2_with fail
            go_meet
            exact ⟨by rw [E1.out], by rw [E2.out], G'⟩
        case rest =>
          obtain ⟨rfl, rfl, G7⟩ := hcut
          clear b0 b1 b2 b3 b4 b5 b6 b7 b8 b9 b10 b11 fb G' s1 hm0 hm1 hge
          go_wp2_with fail
          refine (Part_q (G7.mapAt 1 rfl h) j).mono ?_
          rintro e w7 ⟨rfl, d7, rfl⟩
          obtain ⟨b0, b1, b2, b3, b4, b5, b6, b7, b8, b9, b10, b11, fb⟩ := row12 (G7.get 0 rfl)
          have g1 : (c.nd == (c.cls.length : Int)) = true := by simpa using CL.out.symm
          have g2 : (c.mn == c.mn) = true := by simp
          have g3 : (c.pt == (p : Int)) = true := by simpa using PP.out.symm
          have g4 : (c.partLo j == c.partLo j) = true := by simp
          have g5 : (c.partHi j == c.partHi j) = true := by simp
          have g6 : (sClass c.c0 c.c1 c.c2 c.c3 c.c4 v == sClass c.c0 c.c1 c.c2 c.c3 c.c4 v) = true := by simp
          have g7 : (c.roomAt v == c.roomAt v) = true := by simp
          go_wp2_with fail
          go_region_held3 (fun w' => w'.cell? ⟨w.heap.size, 0, none⟩ = some (.int .i64 c.c0) ∧ w'.cell? ⟨w.heap.size, 1, none⟩ = some (.int .i64 c.c1) ∧ w'.cell? ⟨w.heap.size, 2, none⟩ = some (.int .i64 c.c2) ∧ w'.cell? ⟨w.heap.size, 3, none⟩ = some (.int .i64 c.c3) ∧ w'.cell? ⟨w.heap.size, 4, none⟩ = some (.int .i64 c.c4) ∧ w'.cell? ⟨w.heap.size, 5, none⟩ = some (.int .i64 c.mr) ∧ w'.cell? ⟨w.heap.size, 6, none⟩ = some (.int .i64 c.mu) ∧ w'.cell? ⟨w.heap.size, 7, none⟩ = some (.int .i64 c.dq) ∧ w'.cell? ⟨w.heap.size, 8, none⟩ = some (.int .i64 c.ch) ∧ w'.cell? ⟨w.heap.size, 9, none⟩ = some (.int .i64 c.bf) ∧ w'.cell? ⟨w.heap.size, 10, none⟩ = some (.int .i64 c.rt) ∧ w'.cell? ⟨w.heap.size, 11, none⟩ = some (.int .i64 c.sw)) ((refine ⟨?_, ?_, ?_, ?_, ?_, ?_, ?_, ?_, ?_, ?_, ?_, ?_⟩ <;> (first | (with_reducible assumption) | (simp only [cell_drewN5, cell_drew5]; with_reducible assumption)))) (first | (go_at_call 16; refine (Nodes_q ((G7.drewN _).mapAt 1 rfl h)).mono ?_; rintro e t21 ⟨rfl, d21, rfl⟩) | (go_at_call 21; refine (Common_q ((G7.drewN _).mapAt 1 rfl h)).mono ?_; rintro e t22 ⟨rfl, d22, rfl⟩) | (go_at_call 22; refine (Packets_q ((G7.drewN _).mapAt 1 rfl h)).mono ?_; rintro e t23 ⟨rfl, d23, rfl⟩) | (go_at_call 12; refine (model_c c _).mono ?_; rintro e t24 ⟨rfl, q24⟩; have Y4 := (G7.drewN _).up q24; obtain ⟨yd0, yd1, yd2, yd3, yd4, yd5, yd6, yd7, yd8, yd9, yd10, yd11, fyd⟩ := row12 (Y4.get 0 rfl)) | (go_at_call 23; refine (RPackets_h Y4 c h).mono ?_; rintro e t25 ⟨rfl, Y5⟩; obtain ⟨ye0, ye1, ye2, ye3, ye4, ye5, ye6, ye7, ye8, ye9, ye10, ye11, fye⟩ := row12 (Y5.get 0 rfl)) | (go_at_call 17; refine (Parts_q (Y5.mapAt 1 rfl h)).mono ?_; rintro e t26 ⟨rfl, d26, rfl⟩) | (go_at_call 24; refine (MClass_c ((Y5.drewN _).mapAt 1 rfl h) v hv').mono ?_; rintro e t27 ⟨rfl, q27⟩; have Y7 := (Y5.drewN _).up q27; obtain ⟨yg0, yg1, yg2, yg3, yg4, yg5, yg6, yg7, yg8, yg9, yg10, yg11, fyg⟩ := row12 (Y7.get 0 rfl)) | (go_at_call 25; refine (Room_q (Y7.mapAt 1 rfl h) v).mono ?_; rintro e t28 ⟨rfl, d28, rfl⟩))
          go_wp2_with fail
          go_ret
          exact ⟨by simp, (Y7.drewN _).below⟩

set_option maxRecDepth 100000 in
theorem counts_no (c : Cfg) (h : cfgOk c = false) (v j : Int) (w : World) :
    Calls Try.prog 5 #[cfgV c, .int .i64 v, .int .i64 j] w fun e w' => e = .returned (.bool true) ∧ Below w.heap.size w w' := by
  have HOK := Lib.hid h
  clear h
  unfold cfgV cfgCells
  go_enter Try.func5, Try.ntmps5
  have G0 := (Has.nil w).blkNew (cfgCells c) 24
  go_wp2_with fail
  refine (awake5 _).mono ?_
  rintro e w1 ⟨rfl, q1⟩
  have G1 := G0.up q1
  obtain ⟨b0, b1, b2, b3, b4, b5, b6, b7, b8, b9, b10, b11, fb⟩ := row12 (G1.get 0 rfl)
  clear G0 q1
  go_wp2_with fail
  refine (model_c c _).mono ?_
  rintro e w2 ⟨rfl, q2⟩
  have G2 := G1.up q2
  clear G1 q2 b0 b1 b2 b3 b4 b5 b6 b7 b8 b9 b10 b11 fb
  go_wp2_with fail
  refine (RCheck_c c _).mono ?_
  rw [HOK.out]
  rintro e w3 ⟨rfl, q3⟩
  have G3 := G2.up q3
  have he : errB false = 21 := rfl
  rw [he]
  clear he
  go_wp2_with fail
  go_ret
  exact ⟨rfl, G3.below⟩

theorem walk_LayoutCounts (c0 c1 c2 c3 c4 mr mu dq ch bf rt sw v j : Int) (w : World) (hv : -9223372036854775808 ≤ v) (hv' : v ≤ 9223372036854775807) (hj : -9223372036854775808 ≤ j) (hj' : j ≤ 9223372036854775807) :
    Calls Try.prog 5 #[.agg #[.int .i64 c0, .int .i64 c1, .int .i64 c2, .int .i64 c3, .int .i64 c4, .int .i64 mr, .int .i64 mu, .int .i64 dq, .int .i64 ch, .int .i64 bf, .int .i64 rt, .int .i64 sw], .int .i64 v, .int .i64 j] w fun e w' => e = .returned (.bool true) ∧ Below w.heap.size w w' := by
  cases h : cfgOk ⟨c0, c1, c2, c3, c4, mr, mu, dq, ch, bf, rt, sw⟩ with
  | true => exact counts_ok ⟨c0, c1, c2, c3, c4, mr, mu, dq, ch, bf, rt, sw⟩ ((cfgOk_iff _).1 h) v j hv hv' hj hj' w
  | false => exact counts_no ⟨c0, c1, c2, c3, c4, mr, mu, dq, ch, bf, rt, sw⟩ h v j w

end Go.Proofs.Ytjfemakkjfpdhaa
