/- LayoutLists. -/
import Derived.Test.YtjfemakkjfpdhaaLaw5a
import Derived.Test.YtjfemakkjfpdhaaLists5p
import Derived.Test.YtjfemakkjfpdhaaFirst5
set_option linter.unusedVariables false
set_option linter.unusedSimpArgs false
namespace Go.Proofs.Ytjfemakkjfpdhaa
open Go.ChangeShapes Go.WideShapes Go.ChangeAt Go.RowKit

theorem wrap_small (x : Int) (h0 : 0 ≤ x) (h1 : x ≤ 5000) : IntKind.i64.wrap x = x := wrapi64_id _ (by omega) (by omega)

set_option maxRecDepth 100000 in
set_option maxHeartbeats 16000000 in
theorem lists_ok (c : Cfg) (h : CfgOk c) (w : World) :
    Calls Try.prog 9 #[cfgV c] w fun e w' => e = .returned (.bool true) ∧ Below w.heap.size w w' := by
  have hal := (cfg_bd h).al
  have hn0 := (cfg_bd h).n0
  have hnd := (cfg_bd h).nd
  have hmn := (cfg_bd h).mn
  have hpos : 12 ≤ c.all := by have := (cfg_bd h).pk; have := (cfg_bd h).dqP; have := h.mu; omega
  have FL := Lib.hid (first_len c)
  have hfl : c.first.length ≤ 9000 ∧ 0 < c.first.length := by rw [FL.out]; omega
  have hrp := roomAt_pos c.nd ⟨hnd.1, Int.le_refl _⟩
  obtain ⟨N, hN⟩ : ∃ N : Nat, N = (c.nd - 1).toNat := ⟨_, rfl⟩
  have hN1 : (N : Int) + 1 = c.nd := by omega
  have HN := Lib.hid hN
  have HN1 := Lib.hid hN1
  have hN2 : N ≤ 59 := by omega
  have SA := Lib.hid (sumC_all c N (by omega))
  clear hN hN1
  have hok : cfgOk c = true := (cfgOk_iff c).2 h
  have HOK := Lib.hid hok
  clear hok
  unfold cfgV cfgCells
  go_enter Try.func9, Try.ntmps9
  have G0 := (Has.nil w).blkNew (cfgCells c) 24
  go_wp2_with fail
  refine (awake5 _).mono ?_
  rintro e w1 ⟨rfl, q1⟩
  have G1 := G0.up q1
  obtain ⟨b0, b1, b2, b3, b4, b5, b6, b7, b8, b9, b10, b11, fb⟩ := row12 (G1.get 0 rfl)
  clear G0 q1
  go_wp2_with fail
  refine (model_c c _).mono ?_
  rintro e w2 ⟨rfl, q2⟩
  have G2 := G1.up q2
  clear G1 q2 b0 b1 b2 b3 b4 b5 b6 b7 b8 b9 b10 b11 fb
  go_wp2_with fail
  refine (RCheck_c c _).mono ?_
  rw [HOK.out]
  rintro e w3 ⟨rfl, q3⟩
  have G3 := G2.up q3
  have he : errB true = 0 := rfl
  rw [he]
  obtain ⟨b0, b1, b2, b3, b4, b5, b6, b7, b8, b9, b10, b11, fb⟩ := row12 (G3.get 0 rfl)
  clear G2 q3 he
  go_wp2_with fail
  refine (New_m G3 c h).mono ?_
  rintro e w4 ⟨mb, av, rv, rfl, G4⟩
  clear G3 b0 b1 b2 b3 b4 b5 b6 b7 b8 b9 b10 b11 fb
  obtain ⟨b0, b1, b2, b3, b4, b5, b6, b7, b8, b9, b10, b11, fb⟩ := row12 (G4.get 0 rfl)
  go_wp2_with fail
  refine (First_h G4 1 rfl h).mono ?_
  rintro e w5 ⟨lg, ln, rfl, G5⟩
  obtain ⟨la', lc', hlv⟩ := own_is (G5.get 2 rfl)
  have eln : ln = c.first.length := by simp only [Value.slice.injEq] at hlv; exact hlv.2.1
  subst eln
  clear G4 hlv b0 b1 b2 b3 b4 b5 b6 b7 b8 b9 b10 b11 fb
  have hla : ((c.first.length : Int) != c.all) = false := by rw [FL.out]; simp; omega
  obtain ⟨p4, hp41, hp42, hp43⟩ := first_at h ⟨4, 0, 0⟩ (mem_single 4 (by omega) (by omega))
  have hp4e : (4 : Int) = (p4 : Int) := by rw [← hp41]; exact (atOf_base 4 (by omega) (by omega) 0 0).symm
  obtain ⟨lc_p4, -⟩ := own_at0 (G5.get 2 rfl) hfl.2
  obtain ⟨X4, hX4⟩ : ∃ X4, X4 = (0 : Int) := ⟨_, rfl⟩
  have cp4 := lc_p4 p4 (.int .u64 X4) (by rw [List.getElem?_map, hp43, hX4]; rw [gFirst_pool]; rfl)
  have hp4l : (p4 : Int) < (c.first.length : Int) := by omega
  have Pp4 := Lib.hid hp4e
  have EX4 := Lib.hid hX4
  clear hp41 hp42 hp43 lc_p4 hp4e hX4
  have x40 : (X4 != 0) = false := by rw [EX4.out]; rfl
  go_wp2_with fail
  refine (Len_q (G5.mapAt 1 rfl h)).mono ?_
  rintro e w6 ⟨rfl, d6, rfl⟩
  go_wp2_with fail
  refine (Pool_q ((G5.drewN _).mapAt 1 rfl h)).mono ?_
  rw [Pp4.out]
  rintro e w7 ⟨rfl, d7, rfl⟩
  go_wp2_with fail
  have G7 := G5.drewN (d6 + d7)
  clear G5 cp4
  go_loopw [7, 8, 9, 10] (fun sv kv u9 u10 wr => ∃ (k : Nat) (S : Int), k ≤ 5 ∧ kv = .int .i64 k ∧ sv = .int .i64 S ∧ 0 ≤ S ∧ S ≤ 59 ∧ Hid (S = sumC c N k) ∧ Has w wr [blkC _ w.heap.size (cfgCells c) 24, mapC _ mb av rv c, ownN _ 56 .u64 (.slice (some ⟨lg, 0, none⟩) c.first.length c.first.length) c.first]) (fun _ kv _ _ _ => 6 - (intOf kv).toNat)
  case atStart => exact ⟨0, 0, by omega, rfl, rfl, by omega, by omega, Lib.hid rfl, G7⟩
  case round =>
  obtain ⟨k, S0, hk, rfl, rfl, hS0, hS1, HS, G⟩ := hrel
  clear G7
  by_cases hlt : k < 5
  · have hlt' : (k : Int) < 5 := by omega
    obtain ⟨ph, hph1, hph2, hph3⟩ := first_at h ⟨7, (k : Int), 0⟩ (mem_head h (k : Int) (by omega) (by omega))
    have hphe : c.headAt (k : Int) = (ph : Int) := hph1
    obtain ⟨lc_ph, -⟩ := own_at0 (G.get 2 rfl) hfl.2
    obtain ⟨V0, hV0⟩ : ∃ V0, V0 = lst c (k : Int) 0 N := ⟨_, rfl⟩
    have cph := lc_ph ph (.int .u64 V0) (by rw [List.getElem?_map, hph3, hV0]; rw [gFirst_head, ← HN.out]; rfl)
    have hphl : (ph : Int) < (c.first.length : Int) := by omega
    have Pph := Lib.hid hphe
    have EV0 := Lib.hid hV0
    clear hph1 hph2 hph3 lc_ph hphe hV0
    obtain ⟨T, hT⟩ : ∃ T, T = sumC c N (k + 1) := ⟨_, rfl⟩
    have hTb : 0 ≤ T ∧ T ≤ 59 := by
      have h1 := sumC_bd c N (k + 1)
      have h2 := sumC_mono c N (k + 1) (by omega)
      have h3 := SA.out
      omega
    have HT := Lib.hid hT
    have hV0 : 0 ≤ V0 ∧ V0 ≤ 59 := by
      rw [EV0.out]
      rcases lst_ok c (k : Int) 0 N (by have := HN1.out; omega) with r | ⟨r1, r2, r3, r4⟩ <;> omega
    have hw0 := wrap_small V0 (by omega) (by omega)
    have hSum : Hid (S0 + cntA c (k : Int) 0 N = T) := Lib.hid (by rw [HT.out, HS.out]; rfl)
    clear hT
    go_wp2_with fail
    refine (Head_q (G.mapAt 1 rfl h) (k : Int)).mono ?_
    rw [Pph.out]
    rintro e x1 ⟨rfl, d1, rfl⟩
    go_wp2_with fail
    go_loopw [7, 9, 10] (fun sv lv vv wr => ∃ (S last V : Int), sv = .int .i64 S ∧ lv = .int .i64 last ∧ vv = .int .i64 V ∧ 0 ≤ last ∧ last < c.nd ∧ 0 ≤ S ∧ S ≤ 59 ∧ 0 ≤ V ∧ V ≤ 59 ∧ Hid (V = lst c (k : Int) last N) ∧ Hid (S + cntA c (k : Int) last N = T) ∧ Has w wr [blkC _ w.heap.size (cfgCells c) 24, mapC _ mb av rv c, ownN _ 56 .u64 (.slice (some ⟨lg, 0, none⟩) c.first.length c.first.length) c.first]) (fun _ lv vv _ => (61 - (intOf lv).toNat))
    case atStart => exact ⟨S0, 0, V0, rfl, rfl, rfl, by omega, by omega, hS0, hS1, hV0.1, hV0.2, EV0, hSum, G.drewN _⟩
    case round =>
    obtain ⟨S, last, V, rfl, rfl, rfl, hl0, hl1, hS0', hS1', hVa, hVb, HV, HC, G2⟩ := hrel
    clear G cph
    have hstep := cntA_step c (k : Int) last N (by have := HN1.out; omega)
    have hcb := cntA_bd c (k : Int) V N
    by_cases hz : V = 0
    · subst hz
      have HSN : Hid (S = sumC c N (k + 1)) := Lib.hid (by have := hstep.1 HV.out.symm; have := HC.out; rw [← HT.out]; omega)
      clear hstep hcb
      go_wp2_with fail
      go_roundw
      case rel => exact ⟨k + 1, S, by omega, by go_num, rfl, by omega, by omega, HSN, G2⟩
      case measure => first | (simp [intOf]; done) | (simp [intOf]; omega)
    · have hvo := lst_ok c (k : Int) last N (by have := HN1.out; omega)
      rw [← HV.out] at hvo
      have hvo2 := hvo.resolve_left hz
      obtain ⟨o1, o2, o3, o4⟩ := hvo2
      have hV1 : 1 ≤ V := by omega
      have HC2 : Hid (S + 1 + cntA c (k : Int) V N = T) := Lib.hid (by have := hstep.2 (by rw [← HV.out]; exact hz); rw [← HV.out] at this; have := HC.out; omega)
      have hSb : S + 1 ≤ 59 := by have := HC2.out; omega
      have hck : (c.clsAt V != (k : Int)) = false := by rw [o4]; simp
      have O4 := Lib.hid o4
      have hvz : (V != 0) = true := by simpa using hz
      have g1 : ¬ V ≤ last := by omega
      have g2 : ¬ c.nd ≤ V := by omega
      clear hstep hcb hvo o4 o2
      go_wp2_with fail
      refine (Nodes_q (G2.mapAt 1 rfl h)).mono ?_
      rintro e x2 ⟨rfl, d2, rfl⟩
      go_wp2_with fail
      refine (MClassN_c ((G2.drewN _).mapAt 1 rfl h) V (by omega)).mono ?_
      rintro e x3 ⟨rfl, b3⟩
      have G3 := (G2.drewN _).up b3
      obtain ⟨pn, hpn1, hpn2, hpn3⟩ := first_at h ⟨17, V, 0⟩ (mem_node h 17 V (by omega) (by omega) hV1 (by omega))
      have hpne : c.nodeAt V 3 = (pn : Int) := by rw [← hpn1, atOfN _ _ _ (by omega) (by omega)]; rfl
      obtain ⟨lc_pn, -⟩ := own_at0 (G3.get 2 rfl) hfl.2
      obtain ⟨V2, hV2⟩ : ∃ V2, V2 = lst c (k : Int) V N := ⟨_, rfl⟩
      have cpn := lc_pn pn (.int .u64 V2) (by rw [List.getElem?_map, hpn3, hV2]; rw [gFirst_next V hV1 o3, ← HN.out, O4.out]; rfl)
      have hpnl : (pn : Int) < (c.first.length : Int) := by omega
      have Ppn := Lib.hid hpne
      have EV2 := Lib.hid hV2
      clear hpn1 hpn2 hpn3 lc_pn hpne hV2
      have hV2 : 0 ≤ V2 ∧ V2 ≤ 59 := by
        rw [EV2.out]
        rcases lst_ok c (k : Int) V N (by have := HN1.out; omega) with r | ⟨r1, r2, r3, r4⟩ <;> omega
      have hw2 := wrap_small V2 (by omega) (by omega)
      go_wp2_with fail
      refine (Next_q (G3.mapAt 1 rfl h) V).mono ?_
      rw [Ppn.out]
      rintro e x4 ⟨rfl, d4, rfl⟩
      go_wp2_with fail
      go_roundw
      case rel => exact ⟨S + 1, V, V2, rfl, rfl, rfl, by omega, o3, by omega, hSb, hV2.1, hV2.2, EV2, HC2, G3.drewN _⟩
      case measure => simp [intOf]; omega
  · have hge : ¬ (k : Int) < 5 := by omega
    obtain rfl : k = 5 := by omega
    have HS5 : Hid (S0 = c.nd - 1) := Lib.hid (by rw [HS.out, SA.out]; have := HN1.out; omega)
    clear hlt hk
    obtain ⟨p5, hp51, hp52, hp53⟩ := first_at h ⟨5, 0, 0⟩ (mem_single 5 (by omega) (by omega))
    have hp5e : (5 : Int) = (p5 : Int) := by rw [← hp51]; exact (atOf_base 5 (by omega) (by omega) 0 0).symm
    obtain ⟨lc_p5, -⟩ := own_at0 (G.get 2 rfl) hfl.2
    obtain ⟨X5, hX5⟩ : ∃ X5, X5 = (1 : Int) := ⟨_, rfl⟩
    have cp5 := lc_p5 p5 (.int .u64 X5) (by rw [List.getElem?_map, hp53, hX5]; rw [gFirst_spare]; rfl)
    have hp5l : (p5 : Int) < (c.first.length : Int) := by omega
    have Pp5 := Lib.hid hp5e
    have EX5 := Lib.hid hX5
    clear hp51 hp52 hp53 lc_p5 hp5e hX5
    have hx5 : 0 ≤ X5 ∧ X5 ≤ 1 := by rw [EX5.out]; omega
    have hw5 := wrap_small X5 (by omega) (by omega)
    go_wp2_with fail
    refine (Spare_q (G.mapAt 1 rfl h)).mono ?_
    rw [Pp5.out]
    rintro e x1 ⟨rfl, d1, rfl⟩
    go_wp2_with fail
    go_loopw [11, 12] (fun pv nv wr => ∃ (n : Nat) (Q : Int), (n : Int) ≤ c.mn ∧ nv = .int .i64 n ∧ pv = .int .i64 Q ∧ 0 ≤ Q ∧ Q ≤ 1200 ∧ Hid (Q = if (n : Int) < c.mn then (n : Int) + 1 else 0) ∧ Has w wr [blkC _ w.heap.size (cfgCells c) 24, mapC _ mb av rv c, ownN _ 56 .u64 (.slice (some ⟨lg, 0, none⟩) c.first.length c.first.length) c.first]) (fun _ nv _ => 1200 - (intOf nv).toNat)
    case atStart => exact ⟨0, X5, by omega, rfl, rfl, by omega, by omega, Lib.hid (by rw [EX5.out, if_pos (by omega)]; rfl), G.drewN _⟩
    case round =>
    obtain ⟨n, Q, hn, rfl, rfl, hQ0, hQ1, HQ, G2⟩ := hrel
    clear G cp5
    by_cases hlt : (n : Int) < c.mn
    · have hQe := HQ.out
      rw [if_pos hlt] at hQe
      subst hQe
      have hq1 : ((n : Int) + 1 != 0) = true := by simp; omega
      have hq2 : ((n : Int) + 1 != (n : Int) + 1) = false := by simp
      have hq3 : (n : Int) ≤ c.mn := hn
      have hz : ¬ (n : Int) + 1 = 0 := by omega
      obtain ⟨pl, hpl1, hpl2, hpl3⟩ := first_at h ⟨12, (n : Int) + 1, 0⟩ (mem_pack h ((n : Int) + 1) (by omega) (by omega))
      have hple : c.packAt ((n : Int) + 1) 1 = (pl : Int) := hpl1
      obtain ⟨lc_pl, -⟩ := own_at0 (G2.get 2 rfl) hfl.2
      obtain ⟨V2, hV2⟩ : ∃ V2, V2 = (if (n : Int) + 1 ≤ c.mn - 1 then (n : Int) + 1 + 1 else 0) := ⟨_, rfl⟩
      have cpl := lc_pl pl (.int .u64 V2) (by rw [List.getElem?_map, hpl3, hV2]; rw [gFirst_link]; rfl)
      have hpll : (pl : Int) < (c.first.length : Int) := by omega
      have Ppl := Lib.hid hple
      have EV2 := Lib.hid hV2
      clear hpl1 hpl2 hpl3 lc_pl hple hV2
      have hV2 : 0 ≤ V2 ∧ V2 ≤ 1200 := by rw [EV2.out]; split <;> omega
      have hw2 := wrap_small V2 (by omega) (by omega)
      have HQ2 : Hid (V2 = if ((n + 1 : Nat) : Int) < c.mn then ((n + 1 : Nat) : Int) + 1 else 0) := Lib.hid (by
        rw [EV2.out]
        by_cases q : (n : Int) + 1 ≤ c.mn - 1
        · rw [if_pos q, if_pos (by omega)]; omega
        · rw [if_neg q, if_neg (by omega)])
      go_wp2_with fail
      refine (Packets_q (G2.mapAt 1 rfl h)).mono ?_
      rintro e x2 ⟨rfl, d2, rfl⟩
      go_wp2_with fail
      refine (Link_q ((G2.drewN _).mapAt 1 rfl h) ((n : Int) + 1)).mono ?_
      rw [Ppl.out]
      rintro e x3 ⟨rfl, d3, rfl⟩
      go_wp2_with fail
      go_roundw
      case rel => exact ⟨n + 1, V2, by omega, by go_num, rfl, hV2.1, hV2.2, HQ2, G2.drewN _⟩
      case measure => simp [intOf]; omega
    · have hQe := HQ.out
      rw [if_neg hlt] at hQe
      subst hQe
      have HNM : Hid ((n : Int) = c.mn) := Lib.hid (by omega)
      obtain ⟨ps, hps1, hps2, hps3⟩ := first_at h ⟨15, c.nd, 0⟩ (mem_node h 15 c.nd (by omega) (by omega) hnd.1 (Int.le_refl _))
      have hpse : c.nodeAt c.nd 1 = (ps : Int) := by rw [← hps1, atOfN _ _ _ (by omega) (by omega)]; rfl
      obtain ⟨lc_ps, -⟩ := own_at0 (G2.get 2 rfl) hfl.2
      obtain ⟨Y1, hY1⟩ : ∃ Y1, Y1 = (1 : Int) := ⟨_, rfl⟩
      have cps := lc_ps ps (.int .u64 Y1) (by rw [List.getElem?_map, hps3, hY1]; rw [gFirst_state]; rfl)
      have hpsl : (ps : Int) < (c.first.length : Int) := by omega
      have Pps := Lib.hid hpse
      have EY1 := Lib.hid hY1
      clear hps1 hps2 hps3 lc_ps hpse hY1
      obtain ⟨pr, hpr1, hpr2, hpr3⟩ := first_at h ⟨14, c.nd, 0⟩ (mem_node h 14 c.nd (by omega) (by omega) hnd.1 (Int.le_refl _))
      have hpre : c.nodeAt c.nd 0 = (pr : Int) := by rw [← hpr1, atOfN _ _ _ (by omega) (by omega)]; rfl
      obtain ⟨lc_pr, -⟩ := own_at0 (G2.get 2 rfl) hfl.2
      obtain ⟨Y2, hY2⟩ : ∃ Y2, Y2 = c.roomAt c.nd := ⟨_, rfl⟩
      have cpr := lc_pr pr (.int .u64 Y2) (by rw [List.getElem?_map, hpr3, hY2]; rw [gFirst_header]; rfl)
      have hprl : (pr : Int) < (c.first.length : Int) := by omega
      have Ppr := Lib.hid hpre
      have EY2 := Lib.hid hY2
      clear hpr1 hpr2 hpr3 lc_pr hpre hY2
      go_wp2_with fail
      refine (Common_q (G2.mapAt 1 rfl h)).mono ?_
      rintro e x2 ⟨rfl, d2, rfl⟩
      go_wp2_with fail
      have r1 : IntKind.i64.wrap (c.nd - 1) = c.nd - 1 := wrapi64_id _ (by omega) (by omega)
      have r2 : (S0 == c.nd - 1) = true := by rw [HS5.out]; simp
      have r3 : (c.nd == c.nd) = true := by simp
      have r4 : (Y1 == 1) = true := by rw [EY1.out]; rfl
      have r5 : IntKind.u64.wrap (c.roomAt c.nd) = c.roomAt c.nd := by rw [IntKind.wrap_u64]; omega
      have r6 : (Y2 == c.roomAt c.nd) = true := by rw [EY2.out]; simp
      have r7 : ((n : Int) == c.mn) = true := by rw [HNM.out]; simp
      have G3 := G2.drewN d2
      go_region_held3 (fun w' => w'.cell? ⟨lg, ps, none⟩ = some (.int .u64 Y1) ∧ w'.cell? ⟨lg, pr, none⟩ = some (.int .u64 Y2)) (refine ⟨?_, ?_⟩ <;> (first | (with_reducible assumption) | (simp only [cell_drewN1, cell_drew1]; with_reducible assumption))) (first | (go_at_call 16; refine (Nodes_q ((G2.drewN _).mapAt 1 rfl h)).mono ?_; rintro e y1 ⟨rfl, e1, rfl⟩) | (go_at_call 37; refine (State_q ((G2.drewN _).mapAt 1 rfl h) c.nd).mono ?_; rw [Pps.out]; rintro e y2 ⟨rfl, e2, rfl⟩) | (go_at_call 38; refine (Header_q ((G2.drewN _).mapAt 1 rfl h) c.nd).mono ?_; rw [Ppr.out]; rintro e y3 ⟨rfl, e3, rfl⟩) | (go_at_call 25; refine (Room_q ((G2.drewN _).mapAt 1 rfl h) c.nd).mono ?_; rintro e y4 ⟨rfl, e4, rfl⟩) | (go_at_call 22; refine (Packets_q ((G2.drewN _).mapAt 1 rfl h)).mono ?_; rintro e y5 ⟨rfl, e5, rfl⟩))
      go_wp2_with fail
      go_ret
      exact ⟨by first | rfl | simp, (G2.drewN _).below⟩

set_option maxRecDepth 100000 in
theorem lists_no (c : Cfg) (h : cfgOk c = false) (w : World) :
    Calls Try.prog 9 #[cfgV c] w fun e w' => e = .returned (.bool true) ∧ Below w.heap.size w w' := by
  have HOK := Lib.hid h
  clear h
  unfold cfgV cfgCells
  go_enter Try.func9, Try.ntmps9
  have G0 := (Has.nil w).blkNew (cfgCells c) 24
  go_wp2_with fail
  refine (awake5 _).mono ?_
  rintro e w1 ⟨rfl, q1⟩
  have G1 := G0.up q1
  obtain ⟨b0, b1, b2, b3, b4, b5, b6, b7, b8, b9, b10, b11, fb⟩ := row12 (G1.get 0 rfl)
  clear G0 q1
  go_wp2_with fail
  refine (model_c c _).mono ?_
  rintro e w2 ⟨rfl, q2⟩
  have G2 := G1.up q2
  clear G1 q2 b0 b1 b2 b3 b4 b5 b6 b7 b8 b9 b10 b11 fb
  go_wp2_with fail
  refine (RCheck_c c _).mono ?_
  rw [HOK.out]
  rintro e w3 ⟨rfl, q3⟩
  have G3 := G2.up q3
  have he : errB false = 21 := rfl
  rw [he]
  clear he
  go_wp2_with fail
  go_ret
  exact ⟨rfl, G3.below⟩

theorem walk_LayoutLists (c0 c1 c2 c3 c4 mr mu dq ch bf rt sw : Int) (w : World) :
    Calls Try.prog 9 #[.agg #[.int .i64 c0, .int .i64 c1, .int .i64 c2, .int .i64 c3, .int .i64 c4, .int .i64 mr, .int .i64 mu, .int .i64 dq, .int .i64 ch, .int .i64 bf, .int .i64 rt, .int .i64 sw]] w fun e w' => e = .returned (.bool true) ∧ Below w.heap.size w w' := by
  cases h : cfgOk ⟨c0, c1, c2, c3, c4, mr, mu, dq, ch, bf, rt, sw⟩ with
  | true => exact lists_ok ⟨c0, c1, c2, c3, c4, mr, mu, dq, ch, bf, rt, sw⟩ ((cfgOk_iff _).1 h) w
  | false => exact lists_no ⟨c0, c1, c2, c3, c4, mr, mu, dq, ch, bf, rt, sw⟩ h w

end Go.Proofs.Ytjfemakkjfpdhaa
