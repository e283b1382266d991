/- The walk of DetectorTwice: it answers true, and nothing that was there is changed. No condition but that the arguments can be read. -/
import Derived.Test.YtgodnmcfbbchoaaAw21
import Derived.Test.YtgodnmcfbbchoaaMeth21
import Derived.Test.YtgodnmcfbbchoaaDt21q
set_option linter.unusedVariables false
set_option linter.unusedSimpArgs false
namespace Go.Proofs.Ytgodnmcfbbchoaa
open Go.ChangeShapes Go.WideShapes Go.ChangeAt Go.RowKit

/-- What holds ahead of the looks at the work. -/
structure TwA (c : Cfg) (k : Nat) (l : List Int) (x : Dt) : Prop where
  ok : DtOk c x
  pos : dtPos c x = k
  cy0 : x.doing = 0 → x.cy = 0
  cy1 : x.doing ≠ 0 → x.cy = 1
  ack : ∀ i, 0 ≤ i → i < c.mu → mld l (c.ackAt i) = 3
  work : mld l 1 = 0
  len : 6 + c.mu ≤ (l.length : Int)

theorem twA_step {c : Cfg} (h : CfgOk c) {k : Nat} {l : List Int} {x : Dt} (T : TwA c k l x) (hk : (k : Int) < 4 + 3 * c.mu) : TwA c (k + 1) (dtStep c l x 1).1 (dtStep c l x 1).2 := by
  have hn := pos_lt12 (c := c) (x := x) (by rw [T.pos]; omega)
  have hgo := (dt_go h l x 1 T.ok (fun hd => ⟨fun i h0 h1 => by rw [T.ack i h0 h1, T.cy1 hd]; decide, T.work, fun q => absurd q hn.1⟩) (by decide)).1 hn.2
  obtain ⟨m1, m2⟩ := dt_mem c l x 1
  refine ⟨dt_ok h l x 1 T.ok, by rw [hgo.1, T.pos]; omega, fun q => absurd q hgo.2, fun _ => ?_, fun i h0 h1 => ?_, ?_, by rw [m1]; exact T.len⟩
  · rw [dt_cy]
    by_cases q : x.doing = 0
    · rw [q, T.cy0 q]; rfl
    · have : (x.doing == 0) = false := by simpa using q
      rw [this, T.cy1 q]; rfl
  · have := ackAt_is (c := c) i h0 h1
    rw [m2 _ (by omega) (by omega) (by omega)]; exact T.ack i h0 h1
  · rw [m2 _ (by decide) (by decide) (by decide)]; exact T.work

theorem twA_0 {c : Cfg} (h : CfgOk c) : TwA c 0 (ackF c c.first 3 c.mu.toNat) d0 := by
  have hf := first_room h
  have hmu := h.mu
  refine ⟨dtOk0 h, rfl, fun _ => rfl, fun q => absurd rfl q, fun i h0 h1 => ackF_at hf.1 3 _ (by omega) i h0 (by omega), ?_, by rw [ackF_len]; exact hf.1⟩
  rw [ackF_far _ _ _ _ (by decide) (by decide)]; exact first_lo h 1 (by decide) (by decide)

/-- What holds between two looks. -/
structure TwB (c : Cfg) (row : Nat) (l : List Int) (x : Dt) : Prop where
  ok : DtOk c x
  cy : x.cy = 1
  doing : x.doing = 7 + row
  len : 6 + c.mu ≤ (l.length : Int)
theorem twB_0 {c : Cfg} (h : CfgOk c) {k : Nat} {l : List Int} {x : Dt} (T : TwA c k l x) (hk : (k : Int) = 4 + 3 * c.mu) : TwB c 0 l x := by
  have hd := pos_doing h T.ok 7 (by omega) (by rw [T.pos]; omega)
  exact ⟨T.ok, T.cy1 (by omega), hd, T.len⟩
theorem twB_put {c : Cfg} {row : Nat} {l : List Int} {x : Dt} (T : TwB c row l x) (a v : Int) : TwB c row (mput l a v) x := ⟨T.ok, T.cy, T.doing, by rw [mput_length]; exact T.len⟩
theorem twB_step {c : Cfg} (h : CfgOk c) {row : Nat} {l : List Int} {x : Dt} (T : TwB c row l x) (hr : row ≤ 1) :
    (mld l 1 = 0 → (dtStep c l x 1).2.doing = 8 + row ∧ TwB c (row + 1) (dtStep c l x 1).1 (dtStep c l x 1).2) ∧ (mld l 1 ≠ 0 → (dtStep c l x 1).2.doing = 7 ∧ TwB c 0 (dtStep c l x 1).1 (dtStep c l x 1).2) := by
  have hok := dt_ok h l x 1 T.ok
  have hcy := dt_cy c l x 1
  have hm := (dt_mem c l x 1).1
  obtain ⟨d, cy, t, ek, ea, eb⟩ := x
  have hd := T.doing
  dsimp only at hd
  subst hd
  have hc : (dtStep c l ⟨7 + row, cy, t, ek, ea, eb⟩ 1).2.cy = 1 := by
    rw [hcy]
    have : ((7 + row) == 0) = false := by simp
    show (bif (7 + row) == 0 && _ then _ else _) = _
    rw [this]; exact T.cy
  have hr' : row = 0 ∨ row = 1 := by omega
  refine ⟨fun q => ?_, fun q => ?_⟩
  · have e : (mld l 1 != 0) = false := by simp [q]
    have hd : (dtStep c l ⟨7 + row, cy, t, ek, ea, eb⟩ 1).2.doing = 8 + row := by
      rcases hr' with rfl | rfl
      · show (bif mld l 1 != 0 then 7 else 8) = 8; rw [e]; rfl
      · show (bif mld l 1 != 0 then 7 else 9) = 9; rw [e]; rfl
    exact ⟨hd, hok, hc, by rw [hd]; omega, by rw [hm]; exact T.len⟩
  · have e : (mld l 1 != 0) = true := by simpa using q
    have hd : (dtStep c l ⟨7 + row, cy, t, ek, ea, eb⟩ 1).2.doing = 7 := by
      rcases hr' with rfl | rfl
      · show (bif mld l 1 != 0 then 7 else 8) = 7; rw [e]; rfl
      · show (bif mld l 1 != 0 then 7 else 9) = 7; rw [e]; rfl
    exact ⟨hd, hok, hc, hd, by rw [hm]; exact T.len⟩

set_option maxRecDepth 100000 in
theorem twice_big (c : Cfg) (pa : Option Addr) (np pc : Nat) (w : World) (h6 : (60 : Int) < (np : Int)) :
    Calls Try.prog 3 #[cfgV c, .slice pa np pc] w fun e w' => e = .returned (.bool true) ∧ Below w.heap.size w w' := by
  unfold cfgV cfgCells
  go_enter Try.func3, Try.ntmps3
  have G0 := (Has.nil w).blkNew (cfgCells c) 24
  go_wp2_with fail
  refine (awake21 _).mono ?_
  rintro e w1 ⟨rfl, q1⟩
  have G1 := G0.up q1
  obtain ⟨b0, b1, b2, b3, b4, b5, b6, b7, b8, b9, b10, b11, fb⟩ := row12 (G1.get 0 rfl)
  clear G0 q1
  go_wp2_with fail
  refine (small21_c c _).mono ?_
  rintro e w2 ⟨b, rfl, hb, q2⟩
  have G2 := G1.up q2
  clear G1 q2 b0 b1 b2 b3 b4 b5 b6 b7 b8 b9 b10 b11 fb
  have HB := Lib.hid hb
  clear hb
  cases b with
  | false =>
    go_wp2_with fail
    go_ret
    exact ⟨rfl, G2.below⟩
  | true =>
    go_wp2_with fail
    go_ret
    exact ⟨rfl, G2.below⟩

set_option maxRecDepth 100000 in
set_option maxHeartbeats 8000000 in
theorem twice_ok (c : Cfg) (pa : Option Addr) (np pc : Nat) (w : World) (hrow : IsRows [.bool] w (.slice pa np pc) np) (h6 : ¬ (60 : Int) < (np : Int)) :
    Calls Try.prog 3 #[cfgV c, .slice pa np pc] w fun e w' => e = .returned (.bool true) ∧ Below w.heap.size w w' := by
  have ROW := Lib.hid hrow
  clear hrow
  unfold cfgV cfgCells
  go_enter Try.func3, Try.ntmps3
  have G0 := (Has.nil w).blkNew (cfgCells c) 24
  go_wp2_with fail
  refine (awake21 _).mono ?_
  rintro e w1 ⟨rfl, q1⟩
  have G1 := G0.up q1
  obtain ⟨b0, b1, b2, b3, b4, b5, b6, b7, b8, b9, b10, b11, fb⟩ := row12 (G1.get 0 rfl)
  clear G0 q1
  go_wp2_with fail
  refine (small21_c c _).mono ?_
  rintro e w2 ⟨b, rfl, hb, q2⟩
  have G2 := G1.up q2
  clear G1 q2 b0 b1 b2 b3 b4 b5 b6 b7 b8 b9 b10 b11 fb
  have HB := Lib.hid hb
  clear hb
  cases b with
  | false =>
    go_wp2_with fail
    go_ret
    exact ⟨rfl, G2.below⟩
  | true =>
    have h : CfgOk c := (cfgOk_iff c).1 (HB.out rfl)
    obtain ⟨b0, b1, b2, b3, b4, b5, b6, b7, b8, b9, b10, b11, fb⟩ := row12 (G2.get 0 rfl)
    go_wp2_with fail
    refine (New_m G2 c h).mono ?_
    rintro e w3 ⟨mb, av, rv, rfl, G3⟩
    clear G2 b0 b1 b2 b3 b4 b5 b6 b7 b8 b9 b10 b11 fb
    obtain ⟨b0, b1, b2, b3, b4, b5, b6, b7, b8, b9, b10, b11, fb⟩ := row12 (G3.get 0 rfl)
    go_wp2_with fail
    refine (First_h G3 1 rfl h).mono ?_
    rintro e w7 ⟨g, gn, rfl, G7⟩
    have hfr := first_room h
    go_wp2_with fail
    refine (New_h G7 _ c.first (sl_of_ownN (G7.get 2 rfl)) (by omega)).mono ?_
    rintro e w8 ⟨sb, sg, rfl, G8'⟩
    have G8 := G8'.pick [0, 1, 3] (by decide) (by simp)
    clear G3 G7 G8' b0 b1 b2 b3 b4 b5 b6 b7 b8 b9 b10 b11 fb
    go_wp2_with fail
    refine (dtNew_h G8 mb).mono ?_
    rintro e w9 ⟨xb, rfl, G9⟩
    clear G8
    have hmu := h.mu
    go_wp2_with fail
    go_loopw [11] (fun iv wr => ∃ (i : Nat) (n : Int), (i : Int) ≤ c.mu ∧ iv = .int .i64 i ∧ Has w wr [blkC _ w.heap.size (cfgCells c) 24, mapC _ mb av rv c, storeC _ sb sg (ackF c c.first 3 i) n, dtC _ xb mb d0]) (fun iv _ => 5 - (intOf iv).toNat)
    case atStart => exact ⟨0, 0, by show (0 : Int) ≤ c.mu; omega, rfl, G9⟩
    case round =>
    obtain ⟨i, n, hi, rfl, G⟩ := hrel
    clear G9
    obtain ⟨b0, b1, b2, b3, b4, b5, b6, b7, b8, b9, b10, b11, fb⟩ := row12 (G.get 0 rfl)
    by_cases hlt : (i : Int) < c.mu
    · go_wp2_with fail
      refine (Ack_q (G.mAt 1 rfl h) i).mono ?_
      rintro e t1 ⟨rfl, e1, rfl⟩
      go_wp2_with fail
      refine (Put_h (G.drewN _) 2 rfl _ 3).mono ?_
      rintro e t2 ⟨rfl, G2⟩
      go_wp2_with fail
      go_roundw
      case rel => exact ⟨i + 1, _, by omega, by go_num, G2⟩
      case measure => simp [intOf]; omega
    have hge : ¬ (i : Int) < c.mu := hlt
    have hin : i = c.mu.toNat := by omega
    have T0 := Lib.hid (twA_0 h)
    rw [← hin] at T0
    have HIN := Lib.hid hin
    clear hin
    go_wp2_with fail
    go_loopw [12] (fun kv wr => ∃ (k : Nat) (l : List Int) (n : Int) (x : Dt), (k : Int) ≤ 4 + 3 * c.mu ∧ kv = .int .i64 k ∧ Hid (TwA c k l x) ∧ Has w wr [blkC _ w.heap.size (cfgCells c) 24, mapC _ mb av rv c, storeC _ sb sg l n, dtC _ xb mb x]) (fun kv _ => 20 - (intOf kv).toNat)
    case atStart => exact ⟨0, _, _, d0, by show (0 : Int) ≤ _; omega, rfl, T0, G⟩
    case round =>
    obtain ⟨k, l, n2, x, hk, rfl, T, G2⟩ := hrel
    clear G b0 b1 b2 b3 b4 b5 b6 b7 b8 b9 b10 b11 fb T0
    obtain ⟨b0, b1, b2, b3, b4, b5, b6, b7, b8, b9, b10, b11, fb⟩ := row12 (G2.get 0 rfl)
    by_cases hl2 : (k : Int) < 4 + 3 * c.mu
    · go_wp2_with fail
      refine (dtStep_h G2 2 3 1 rfl rfl (by decide) h x 1 rfl T.out.ok (by have := T.out.cy0; have := T.out.cy1; by_cases q : x.doing = 0 <;> simp_all) (by decide)).mono ?_
      rintro e t1 ⟨rfl, G3⟩
      have T2 := Lib.hid (twA_step h T.out hl2)
      go_wp2_with fail
      go_roundw
      case rel => exact ⟨k + 1, _, _, _, by omega, by go_num, T2, G3⟩
      case measure => simp [intOf]; omega
    have hg2 : ¬ (k : Int) < 4 + 3 * c.mu := hl2
    have hkk : (k : Int) = 4 + 3 * c.mu := by omega
    have B := Lib.hid (twB_0 h T.out hkk)
    have HKK := Lib.hid hkk
    have hd7 : Hid ((x.doing : Int) = 7) := Lib.hid (by have := B.out.doing; omega)
    clear hkk hl2
    go_wp2_with fail
    refine (DoingD_q G2 3 rfl 7 hd7.out).mono ?_
    rintro e t1 ⟨rfl, e1, rfl⟩
    have G3 := G2.drewN e1
    have hnp : np ≤ 60 := by omega
    go_wp2_with fail
    go_loopw [13, 14] (fun zv kv wr => ∃ (k2 row : Nat) (l : List Int) (n : Int) (x : Dt), k2 ≤ np ∧ row ≤ 1 ∧ kv = .int .i64 k2 ∧ zv = .int .i64 row ∧ Hid (TwB c row l x) ∧ Has w wr [blkC _ w.heap.size (cfgCells c) 24, mapC _ mb av rv c, storeC _ sb sg l n, dtC _ xb mb x]) (fun _ kv _ => 61 - (intOf kv).toNat)
    case atStart => exact ⟨0, 0, _, _, _, by omega, by omega, rfl, rfl, B, G3⟩
    case round =>
    obtain ⟨k2, row, l, n2, x, hk, hr, rfl, rfl, T, G⟩ := hrel
    clear G2 G3 b0 b1 b2 b3 b4 b5 b6 b7 b8 b9 b10 b11 fb B hd7 HKK hg2
    by_cases hl3 : k2 < np
    · have hl3' : (k2 : Int) < (np : Int) := by omega
      obtain ⟨pb, poff, pcap, hpv, hpb, hrows⟩ := rows_at ROW.out (by omega) (by decide)
      simp only [Value.slice.injEq] at hpv
      obtain ⟨rfl, -, rfl⟩ := hpv
      obtain ⟨vs, hsc, hcl⟩ := hrows k2 hl3
      obtain ⟨p0, vs', rfl, ⟨bv, rfl⟩, hsn⟩ := scal_cons hsc
      have hcl0 := hcl 0 (by decide)
      simp only [List.length_singleton, Nat.mul_one, Nat.add_zero, List.getElem?_cons_zero] at hcl0
      have hcl1 := Lib.hid hcl0
      have hpb' := Lib.hid hpb
      clear hrows hsc hcl hsn hcl0 hpb
      have d0 : wr.cell? ⟨pb, poff + k2, none⟩ = some (.bool bv) := (G.below.cell (p := ⟨pb, poff + k2, none⟩) hpb'.out).trans hcl1.out
      go_wp2_with fail
      refine (Work_q (G.mAt 1 rfl h)).mono ?_
      rintro e t1 ⟨rfl, e1, rfl⟩
      go_wp2_with fail
      refine (Put_h (G.drewN _) 2 rfl 1 0).mono ?_
      rintro e t2 ⟨rfl, G2⟩
      have d2 : t2.cell? ⟨pb, poff + k2, none⟩ = some (.bool bv) := (G2.below.cell (p := ⟨pb, poff + k2, none⟩) hpb'.out).trans hcl1.out
      clear d0
      have hr01 : row = 0 ∨ row = 1 := by omega
      cases bv with
      | true =>
        go_wp2_with fail
        refine (Work_q (G2.mAt 1 rfl h)).mono ?_
        rintro e t3 ⟨rfl, e3, rfl⟩
        go_wp2_with fail
        refine (Put_h (G2.drewN _) 2 rfl 1 ((k2 : Int) + 1)).mono ?_
        rintro e t4 ⟨rfl, G4⟩
        have T1 := twB_put (twB_put T.out 1 0) 1 ((k2 : Int) + 1)
        have hm : mld (mput (mput l 1 0) 1 ((k2 : Int) + 1)) 1 ≠ 0 := by
          rw [mld_mput_same (by rw [mput_length]; have := T.out.len; omega)]; omega
        have S := Lib.hid ((twB_step h T1 hr).2 hm)
        clear hm d2
        go_wp2_with fail
        refine (dtStep_h G4 2 3 1 rfl rfl (by decide) h x 1 rfl T1.ok (by rw [T1.cy]; decide) (by decide)).mono ?_
        rintro e t5 ⟨rfl, G5⟩
        have d5 : t5.cell? ⟨pb, poff + k2, none⟩ = some (.bool true) := (G5.below.cell (p := ⟨pb, poff + k2, none⟩) hpb'.out).trans hcl1.out
        clear T1
        go_wp2_with fail
        refine (DoingD_q G5 3 rfl 7 (by rw [S.out.1]; rfl)).mono ?_
        rintro e t6 ⟨rfl, e6, rfl⟩
        go_wp2_with fail
        go_roundw
        case rel => exact ⟨k2 + 1, 0, _, _, _, by omega, by omega, by go_num, rfl, Lib.hid S.out.2, G5.drewN _⟩
        case measure => simp [intOf]; omega
      | false =>
        have T1 := twB_put T.out 1 0
        have hm : mld (mput l 1 0) 1 = 0 := mld_mput_same (by have := T.out.len; omega) _
        have S := Lib.hid ((twB_step h T1 hr).1 hm)
        clear hm
        go_wp2_with fail
        refine (dtStep_h G2 2 3 1 rfl rfl (by decide) h x 1 rfl T1.ok (by rw [T1.cy]; decide) (by decide)).mono ?_
        rintro e t5 ⟨rfl, G5⟩
        have d5 : t5.cell? ⟨pb, poff + k2, none⟩ = some (.bool false) := (G5.below.cell (p := ⟨pb, poff + k2, none⟩) hpb'.out).trans hcl1.out
        clear T1 d2
        rcases hr01 with rfl | rfl
        · go_wp2_with fail
          refine (DoingD_q G5 3 rfl 8 (by rw [S.out.1]; rfl)).mono ?_
          rintro e t6 ⟨rfl, e6, rfl⟩
          go_wp2_with fail
          go_roundw
          case rel => exact ⟨k2 + 1, 1, _, _, _, by omega, by omega, by go_num, rfl, Lib.hid S.out.2, G5.drewN _⟩
          case measure => simp [intOf]; omega
        · go_wp2_with fail
          refine (DoingD_q G5 3 rfl 9 (by rw [S.out.1]; rfl)).mono ?_
          rintro e t6 ⟨rfl, e6, rfl⟩
          go_wp2_with fail
          go_ret
          exact ⟨rfl, (G5.drewN _).below⟩
    · have hg3 : ¬ (k2 : Int) < (np : Int) := by omega
      go_wp2_with fail
      go_ret
      exact ⟨rfl, G.below⟩

theorem walk_DetectorTwice (c0 c1 c2 c3 c4 mr mu dq ch bf rt sw : Int) (pa : Option Addr) (pl pc np : Nat) (w : World) (hp : IsRows [.bool] w (.slice pa pl pc) np) :
    Calls Try.prog 3 #[.agg #[.int .i64 c0, .int .i64 c1, .int .i64 c2, .int .i64 c3, .int .i64 c4, .int .i64 mr, .int .i64 mu, .int .i64 dq, .int .i64 ch, .int .i64 bf, .int .i64 rt, .int .i64 sw], .slice pa pl pc] w fun e w' => e = .returned (.bool true) ∧ Below w.heap.size w w' := by
  obtain rfl : pl = np := by
    rcases hp with ⟨h, h0⟩ | ⟨y, c, h, _⟩
    · cases h; exact h0.symm
    · cases h; rfl
  by_cases h2 : (60 : Int) < (pl : Int)
  · exact twice_big ⟨c0, c1, c2, c3, c4, mr, mu, dq, ch, bf, rt, sw⟩ pa pl pc w h2
  · exact twice_ok ⟨c0, c1, c2, c3, c4, mr, mu, dq, ch, bf, rt, sw⟩ pa pl pc w hp h2

end Go.Proofs.Ytgodnmcfbbchoaa
