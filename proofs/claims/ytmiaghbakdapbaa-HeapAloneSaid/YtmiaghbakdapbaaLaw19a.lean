/- The walk of HeapAlone: it answers true, and nothing that was there is changed. No condition but that the arguments can be read. -/
import Derived.Test.YtmiaghbakdapbaaFree19
import Derived.Test.YtmiaghbakdapbaaWalk19
import Derived.Test.YtmiaghbakdapbaaRef6H
set_option linter.unusedVariables false
set_option linter.unusedSimpArgs false
namespace Go.Proofs.Ytmiaghbakdapbaa
open Go.ChangeShapes Go.WideShapes Go.ChangeAt Go.RowKit

theorem el_bool19 : ElemOf Try.prog 70 4 (.bool false) 1 1 := elemOf Try.underlying70 (by kernel_rfl)
theorem iter_ok {c : Cfg} {l : List Int} {m : Hp} (hm : HpOk m) (hk : 0 ≤ m.mark ∧ m.mark < 18446744073709551616) (hw : Wm l) : ∀ q, HpOk (hpIter c q (l, m)).2 ∧ Wm (hpIter c q (l, m)).1 ∧ (0 ≤ (hpIter c q (l, m)).2.mark ∧ (hpIter c q (l, m)).2.mark < 18446744073709551616)
  | 0 => ⟨hm, hw, hk⟩
  | q + 1 => by
    obtain ⟨a, b, d⟩ := iter_ok hm hk hw q
    exact ⟨hpOk_step a (wm_mld b), wm_step a d b, by show 0 ≤ (hpStep c (hpIter c q (l, m)).1 (hpIter c q (l, m)).2).2.mark ∧ (hpStep c (hpIter c q (l, m)).1 (hpIter c q (l, m)).2).2.mark < 18446744073709551616; rw [(hpStep_fix c _ _).2.2]; exact d⟩
/-- What holds ahead of each node. -/
structure AJ (c : Cfg) (k : Int) (l : List Int) (last j : Int) (xs : List Value) : Prop where
  ai : AI c k l last
  left : cntA c k last (c.nd - 1).toNat + j = c.free k
  l0 : 0 ≤ last
  len : xs.length = (c.nd + 1).toNat
  free : ∀ u : Nat, last < u → u ≤ c.nd → xs[u]? = some (.bool false)
theorem aj_next {c : Cfg} (h : CfgOk c) {n mk : Int} (k0 : 0 ≤ sOf n) {l : List Int} {last j : Int} {xs : List Value} (J : AJ c (sOf n) l last j xs) (m0 : 0 ≤ mk ∧ mk < 18446744073709551616) (hj : j < c.free (sOf n)) :
    ∃ v : Nat, last < v ∧ 1 ≤ v ∧ (v : Int) < c.nd ∧ c.clsAt v = sOf n ∧ mld l (c.headAt (sOf n)) % 4294967296 = v ∧ AJ c (sOf n) (aMem c l n mk v) v (j + 1) (xs.set v (.bool true)) := by
  obtain ⟨z1, z2⟩ := left_zero h (sOf n) last
  have hne : cntA c (sOf n) last (c.nd - 1).toNat ≠ 0 := by have := J.left; omega
  obtain ⟨e1, e2⟩ := z2 hne
  obtain ⟨A, b1, b2, b3, b4, b5⟩ := ai_alloc h k0 J.ai m0 rfl e1
  obtain ⟨V, hV⟩ : ∃ V, V = lst c (sOf n) last (c.nd - 1).toNat := ⟨_, rfl⟩
  rw [← hV] at e2 A b1 b2 b3 b4 b5
  obtain ⟨v, rfl⟩ : ∃ v : Nat, V = v := ⟨V.toNat, by omega⟩
  refine ⟨v, b1, by omega, b3, b4, b5, ⟨A, by have := J.left; omega, by omega, by rw [List.length_set]; exact J.len, fun u u1 u2 => ?_⟩⟩
  rw [List.getElem?_set_ne (by omega)]
  exact J.free u (by omega) u2

theorem aj_next' {c : Cfg} (h : CfgOk c) {n mk K : Int} (hK : K = sOf n) (k0 : 0 ≤ K) {l : List Int} {last j : Int} {xs : List Value} (J : AJ c K l last j xs) (m0 : 0 ≤ mk ∧ mk < 18446744073709551616) (hj : j < c.free K) :
    ∃ v : Nat, last < v ∧ 1 ≤ v ∧ (v : Int) < c.nd ∧ c.clsAt v = sOf n ∧ mld l (c.headAt (sOf n)) % 4294967296 = v ∧ AJ c K (aMem c l n mk v) v (j + 1) (xs.set v (.bool true)) := by
  subst hK
  exact aj_next h k0 J m0 hj
theorem alone_iter' {c : Cfg} (h : CfgOk c) {n mk K : Int} (hK : K = sOf n) (k0 : 0 ≤ K) {l : List Int} (hl : l.length = c.first.length) {v : Int} (h1 : 1 ≤ v) (h2 : v ≤ c.nd) (hv : mld l (c.headAt (sOf n)) % 4294967296 = v) : hpIter c 32 (l, hpNew n mk) = (aMem c l n mk v, ⟨n, sOf n, mk, mld l (c.headAt (sOf n)), mld l (c.nodeAt v 3) % 4294967296, v, false, 1, c.roomAt v, v, 0, 0, 0, 0, 0⟩) := by
  subst hK
  exact alone_iter h hl k0 h1 h2 hv

set_option maxRecDepth 100000 in
set_option maxHeartbeats 16000000 in
theorem halone_ok (c : Cfg) (sl mk : Int) (w : World) (s0 : 0 ≤ sl) (s1 : sl < 256) (m0 : 0 ≤ mk) (m1 : mk < 18446744073709551616) :
    Calls Try.prog 5 #[cfgV c, .int .u8 sl, .int .u64 mk] w fun e w' => e = .returned (.bool true) ∧ Below w.heap.size w w' := by
  have MK := Lib.hid (And.intro m0 m1)
  obtain ⟨n, hn⟩ : ∃ n, n = sl % 18 := ⟨_, rfl⟩
  have hnb : 0 ≤ n ∧ n ≤ 17 := by omega
  unfold cfgV cfgCells
  go_enter Try.func5, Try.ntmps5
  have G0 := (Has.nil w).blkNew (cfgCells c) 24
  go_wp2_with fail
  refine (awake19 _).mono ?_
  rintro e w1 ⟨rfl, q1⟩
  have G1 := G0.up q1
  obtain ⟨b0, b1, b2, b3, b4, b5, b6, b7, b8, b9, b10, b11, fb⟩ := row12 (G1.get 0 rfl)
  clear G0 q1
  go_wp2_with fail
  refine (small19_c c _).mono ?_
  rintro e w2 ⟨b, rfl, hb, q2⟩
  have G2 := G1.up q2
  clear G1 q2 b0 b1 b2 b3 b4 b5 b6 b7 b8 b9 b10 b11 fb
  have HB := Lib.hid hb
  clear hb
  cases b with
  | false =>
    go_wp2_with fail
    go_ret
    exact ⟨rfl, G2.below⟩
  | true =>
    have h : CfgOk c := (cfgOk_iff c).1 (HB.out rfl)
    have hc := Lib.hid h
    have hnd := (cfg_bd h).nd
    obtain ⟨b0, b1, b2, b3, b4, b5, b6, b7, b8, b9, b10, b11, fb⟩ := row12 (G2.get 0 rfl)
    go_wp2_with fail
    refine (New_m G2 c h).mono ?_
    rintro e w3 ⟨mb, av, rv, rfl, G3⟩
    clear G2 b0 b1 b2 b3 b4 b5 b6 b7 b8 b9 b10 b11 fb
    go_wp2_with fail
    refine (First_h G3 1 rfl h).mono ?_
    rintro e w7 ⟨g, gn, rfl, G7⟩
    go_wp2_with fail
    refine (New_h G7 _ c.first (sl_of_ownN (G7.get 2 rfl)) (first_bd h)).mono ?_
    rintro e w8 ⟨sb, sg, rfl, G8'⟩
    have G8 := G8'.pick [1, 3] (by decide) (by simp)
    clear G7 G8' G3
    go_wp2_with fail
    rw [← hn]
    clear hn
    refine (Of_c n _).mono ?_
    obtain ⟨K, hK⟩ : ∃ K, K = sOf n := ⟨_, rfl⟩
    rw [← hK]
    rintro e w9 ⟨rfl, d9, rfl⟩
    have HK := Lib.hid hK
    clear hK
    by_cases hk : K < 0
    · have hk' : ¬ 0 ≤ sOf n := by rw [← HK.out]; omega
      have ep : (hpNew n mk).pc = 0 := by show hpPc (decide (0 ≤ sOf n)) 1 0 = 0; rw [decide_eq_false hk']; rfl
      have ee : (hpNew n mk).e = 21 := by show hpE (decide (0 ≤ sOf n)) 0 21 = 21; rw [decide_eq_false hk']; rfl
      have es : (hpStep c c.first (hpNew n mk)).2.pc = 0 := by rw [hpStep_end c c.first _ ep]; exact ep
      have ec : hpCount (hpNew n mk) 0 = 0 := by unfold hpCount; rw [ep]; rfl
      have EE := Lib.hid ee
      have ES := Lib.hid es
      have EC := Lib.hid ec
      clear hk' ep ee es ec
      go_wp2_with fail
      refine (hpNew_h (G8.drewN _) mb n mk).mono ?_
      rintro e t1 ⟨xb, rfl, H1⟩
      go_wp2_with fail
      refine (Node_q H1 2 (hpNew n mk) rfl).mono ?_
      rw [EE.out]
      rintro e t2 ⟨rfl, d2, rfl⟩
      go_wp2_with fail
      refine (hpStep_h (H1.drewN d2) 1 2 0 rfl rfl (by decide) (by decide) (by decide) h (hpNew n mk) rfl (hpOk_new _ _) (wm_mld (wm_first h))).mono ?_
      rw [ES.out, EC.out]
      rintro e t3 ⟨rfl, H3⟩
      go_wp2_with fail
      refine (Count_h H3 1 rfl).mono ?_
      rintro e t4 ⟨rfl, hw⟩
      obtain rfl := hw.symm
      go_wp2_with fail
      go_ret
      exact ⟨rfl, H3.below⟩
    · have hk0 : 0 ≤ K := by omega
      have hk5 : K < 5 := by rw [HK.out]; exact sOf_five n
      have I0 : Hid (AI c K c.first 0) := Lib.hid (ai_first h K hk0 hk5)
--[K
      go_wp2_with fail
      go_loopw [17, 18] (fun vv uv wr => ∃ (v : Int) (l : List Int) (n : Int), 1 ≤ v ∧ v ≤ c.nd + 1 ∧ vv = .int .i64 v ∧ Hid (AI c K l 0) ∧ Has w wr [mapC _ mb av rv c, storeC _ sb sg l n]) (fun vv _ _ => 70 - (intOf vv).toNat)
      case atStart => exact ⟨1, c.first, 0, by omega, by omega, rfl, I0, G8.drewN _⟩
      case round =>
      obtain ⟨v, l, cn, v1, v2, rfl, I, G⟩ := hrel
      clear G8 I0
      go_wp2_with fail
      refine (Nodes_q (G.mAt 0 rfl h)).mono ?_
      rintro e t1 ⟨rfl, d1, rfl⟩
      by_cases hv : v ≤ c.nd
      · go_wp2_with fail
        have G2 := G.drewN d1
        go_loopw [18] (fun iv wr => ∃ (i : Int) (l : List Int) (n : Int), 0 ≤ i ∧ i ≤ 16 ∧ iv = .int .i64 i ∧ Hid (AI c K l 0) ∧ Has w wr [mapC _ mb av rv c, storeC _ sb sg l n]) (fun iv _ => 20 - (intOf iv).toNat)
        case atStart => exact ⟨0, l, cn, by omega, by omega, rfl, I, G2⟩
        case round =>
        obtain ⟨i, l2, cn2, i1, i2, rfl, I2, G3⟩ := hrel
        clear G2 G I
        have hrm := roomAt_pos v ⟨v1, hv⟩
        obtain ⟨rm, hrmd⟩ : ∃ rm, rm = c.roomAt v := ⟨_, rfl⟩
        rw [← hrmd] at hrm
        go_wp2_with fail
        refine (Room_q (G3.mAt 0 rfl h) v).mono ?_
        rw [← hrmd]
        clear hrmd
        rintro e t2 ⟨rfl, d2, rfl⟩
        by_cases hi : i < rm
        · go_wp2_with fail
          refine (Slot_q ((G3.drewN d2).mAt 0 rfl h) v i).mono ?_
          rintro e t3 ⟨rfl, d3, rfl⟩
          go_wp2_with fail
          refine (Put_h (G3.drewN _) 1 rfl (c.slotAt v i) 7).mono ?_
          rintro e t4 ⟨rfl, G4⟩
          have I4 := Lib.hid (ai_slot hc.out hk0 hk5 I2.out v i 7 (by decide))
          go_wp2_with fail
          go_roundw
          case rel => exact ⟨i + 1, mput l2 (c.slotAt v i) 7, wrap64 (cn2 + 1), by omega, by omega, by go_num, I4, G4⟩
          case measure => simp [intOf]; omega
        · go_wp2_with fail
          go_roundw
          case rel => exact ⟨v + 1, l2, cn2, by omega, by omega, by go_num, I2, G3.drewN _⟩
          case measure => simp [intOf]; omega
      · obtain ⟨N, hN⟩ : ∃ N : Nat, (N : Int) = c.nd + 1 := ⟨(c.nd + 1).toNat, by omega⟩
        have hN2 : IntKind.i64.wrap (c.nd + 1) = (N : Int) := by rw [hN]; exact wrapi64_id _ (by omega) (by omega)
        have HN := Lib.hid hN
        go_wp2_with fail
        refine (Nodes_q ((G.drewN d1).mAt 0 rfl h)).mono ?_
        rintro e t2 ⟨rfl, d2, rfl⟩
        have G2 := G.drewN (d1 + d2)
        have hN3 : wrap64 (c.nd + 1) = (N : Int) := by rw [hN]; exact wrap64_id19 _ (by omega) (by omega)
        go_wp2_with (at_make; go_loud (refine wpl_mk G2 rfl (.tmp 95) (.tmp 95) rfl el_bool19 rfl (by decide) N (congrArg (Value.int .i64) HN.out.symm) (congrArg (Value.int .i64) HN.out.symm) (by omega) ?_); intro t3 G3)
--[S
        have HKS : Hid (K = sOf n) := HK
        obtain ⟨eb, G4⟩ : ∃ eb, (wr.drewN (d1 + d2)).heap.size = eb ∧ Has w t3 [mapC _ mb av rv c, storeC _ sb sg l cn, ownC _ 4 1 (.slice (some ⟨eb, 0, none⟩) N N) N (List.replicate N (.bool false))] := ⟨_, rfl, G3⟩
        obtain ⟨heb, G4⟩ := G4
        have heb2 : wr.heap.size = eb := heb
        rw [heb2]
        have J0 : Hid (AJ c K l 0 0 (List.replicate N (.bool false))) := Lib.hid ⟨I.out, by unfold Cfg.free; omega, by omega, by rw [List.length_replicate]; omega, fun u u1 u2 => by rw [List.getElem?_replicate, if_pos (by omega)]⟩
        obtain ⟨F, hF⟩ : ∃ F, F = c.free K := ⟨_, rfl⟩
        have hFb : 0 ≤ F ∧ F ≤ 60 := by rw [hF]; exact free_bd h K
        have HF := Lib.hid hF
        clear G3 G2 G I heb heb2 hF hN2 hN3 hN
        go_wp2_with fail
        go_loopw [20, 21, 22, 23, 24, 25] (fun jv u21 u22 u23 u24 u25 wr => ∃ (j : Int) (l : List Int) (cn last : Int) (xs : List Value), 0 ≤ j ∧ j ≤ F ∧ jv = .int .i64 j ∧ Hid (AJ c K l last j xs) ∧ Has w wr [mapC _ mb av rv c, storeC _ sb sg l cn, ownC _ 4 1 (.slice (some ⟨eb, 0, none⟩) N N) N xs]) (fun jv _ _ _ _ _ _ => 70 - (intOf jv).toNat)
        case atStart => exact ⟨0, l, cn, 0, _, by omega, by omega, rfl, J0, G4⟩
        case round =>
        obtain ⟨j, l, cn, last, xs, j0, j1, rfl, J, G⟩ := hrel
        clear G4 J0
        go_wp2_with fail
        refine (Free_h G 0 rfl h K).mono ?_
        rw [← HF.out]
        rintro e t4 ⟨rfl, G4⟩
        by_cases hj : j < F
        · obtain ⟨u, u1, u2, u3, u4, u5, J2⟩ := aj_next' h HKS.out hk0 J.out MK.out (by rw [← HF.out]; exact hj)
          have J2 := Lib.hid J2
          have IT := Lib.hid (alone_iter' h (n := n) (mk := mk) HKS.out hk0 J.out.ai.len (by omega) (by omega) u5)
          have IO := Lib.hid (fun q => iter_ok (c := c) (hpOk_new n mk) MK.out J.out.ai.wm q)
          have hu1 : (1 : Int) ≤ (u : Int) := by omega
          have hu3 : ¬ c.nd < (u : Int) := by omega
          have hu4 : (u : Int) < (N : Int) := by have := HN.out; omega
          have U := Lib.hid (And.intro u1 (And.intro u3 u4))
          clear u1 u2 u3 u4 u5
          go_wp2_with fail
          refine (hpNew_h G4 mb n mk).mono ?_
          rintro e t5 ⟨xb, rfl, G5⟩
          clear G4 G
          go_wp2_with fail
          go_loopw [22] (fun qv wr => ∃ (q : Nat) (cq : Int), q ≤ 32 ∧ qv = .int .i64 q ∧ Has w wr [mapC _ mb av rv c, storeC _ sb sg (hpIter c q (l, hpNew n mk)).1 cq, ownC _ 4 1 (.slice (some ⟨eb, 0, none⟩) N N) N xs, hpC _ xb mb (hpIter c q (l, hpNew n mk)).2]) (fun qv _ => 40 - (intOf qv).toNat)
          case atStart => exact ⟨0, cn, by omega, rfl, G5⟩
          case round =>
          obtain ⟨q, cq, hq, rfl, G6⟩ := hrel
          clear G5
          by_cases hq2 : q < 32
          · have hq3 : (q : Int) < 32 := by omega
            go_wp2_with fail
            refine (hpStep_h G6 1 3 0 rfl rfl (by decide) (by decide) (by decide) h _ rfl (IO.out q).1 (wm_mld (IO.out q).2.1)).mono ?_
            obtain ⟨bq, hbq⟩ : ∃ b, b = ((hpStep c (hpIter c q (l, hpNew n mk)).1 (hpIter c q (l, hpNew n mk)).2).2.pc == 0) := ⟨_, rfl⟩
            rw [← hbq]
            clear hbq
            rintro e t6 ⟨rfl, G7⟩
            have G8 : ∃ cq', Has w t6 [mapC _ mb av rv c, storeC _ sb sg (hpIter c (q + 1) (l, hpNew n mk)).1 cq', ownC _ 4 1 (.slice (some ⟨eb, 0, none⟩) N N) N xs, hpC _ xb mb (hpIter c (q + 1) (l, hpNew n mk)).2] := ⟨_, G7⟩
            obtain ⟨cq', G8⟩ := G8
            clear G7 G6
            go_wp2_with fail
            go_roundw
            case rel => exact ⟨q + 1, cq', by omega, by go_num, G8⟩
            case measure => simp [intOf]; omega
          · have hq3 : ¬ (q : Int) < 32 := by omega
            obtain rfl : q = 32 := by omega
            rw [IT.out] at G6
            dsimp only at G6
            obtain ⟨L, hL⟩ : ∃ L, L = aMem c l n mk u := ⟨_, rfl⟩
            rw [← hL] at G6
            have e1 : mld L (c.nodeAt u 1) = 1 := by rw [hL]; exact aMem_state h J.out.ai.len (by rw [← HKS.out]; exact hk0) hu1 (by omega)
            have e2 : mld L (c.nodeAt u 2) = mk := by rw [hL]; exact aMem_mark h J.out.ai.len (by rw [← HKS.out]; exact hk0) hu1 (by omega)
            have e3 : mld L (c.nodeAt u 0) = n := by rw [hL, aMem_header h J.out.ai.len (by rw [← HKS.out]; exact hk0) hu1 (by omega)]; exact wrapu64_id _ (by omega) (by omega)
            have e4 : ∀ i, 0 ≤ i → i < c.roomAt u → mld L (c.slotAt u i) = 0 := by rw [hL]; exact fun i i0 i1 => aMem_slot h J.out.ai.len (by rw [← HKS.out]; exact hk0) hu1 (by omega) i i0 i1
            have E1 := Lib.hid e1
            have E2 := Lib.hid e2
            have E3 := Lib.hid e3
            have E4 := Lib.hid e4
            have HL := Lib.hid hL
            clear e1 e2 e3 e4 hL
            have hnw : IntKind.u64.wrap n = n := wrapu64_id _ (by omega) (by omega)
            have sC := (own_atV (G6.get 2 rfl) (by omega))
            obtain ⟨g', off', hgo, -, -, -, scell, sfz⟩ := sC
            obtain ⟨rfl, rfl⟩ : eb = g' ∧ 0 = off' := by injection hgo with q1; injection q1 with q2 q3; exact ⟨q2, q3⟩
            have hs := scell u _ (J.out.free u U.out.1 (by omega))
            rw [Nat.zero_add] at hs
            clear scell hgo hq hq2
            have hb1 : decide ((u : Int) < 1) = false := by simp; omega
            have hb2 : decide (c.nd < (u : Int)) = false := by simp; omega
            have hb3 : (u : Int) < 1 ↔ False := ⟨fun q => by omega, fun q => q.elim⟩
            have hb4 : c.nd < (u : Int) ↔ False := ⟨fun q => by omega, fun q => q.elim⟩
            go_wp2_with fail
            refine (Node_q G6 3 _ rfl).mono ?_
            rintro e t7 ⟨rfl, d7, rfl⟩
            go_wp2_with fail
            refine (Nodes_q ((G6.drewN _).mAt 0 rfl h)).mono ?_
            rintro e t8 ⟨rfl, d8, rfl⟩
            go_wp2_with fail
            refine (MClassN_c ((G6.drewN _).mAt 0 rfl h) u (by omega)).mono ?_
            rw [U.out.2.2, ← HKS.out]
            have kk : (K != K) = false := by simp
            rintro e t9 ⟨rfl, q9⟩
            have G9 := (G6.drewN _).up q9
            go_wp2_with fail
            refine (State_q (G9.mAt 0 rfl h) u).mono ?_
            rintro e t10 ⟨rfl, d10, rfl⟩
            go_wp2_with fail
            refine (Load_h (G9.drewN _) 1 rfl _).mono ?_
            rw [E1.out]
            rintro e t11 ⟨rfl, G11⟩
            go_wp2_with fail
            refine (Mark_q (G11.mAt 0 rfl h) u).mono ?_
            rintro e t12 ⟨rfl, d12, rfl⟩
            go_wp2_with fail
            refine (Load_h (G11.drewN _) 1 rfl _).mono ?_
            rw [E2.out]
            have kk2 : (mk != mk) = false := by simp
            rintro e t13 ⟨rfl, G13⟩
            go_wp2_with fail
            refine (Header_q (G13.mAt 0 rfl h) u).mono ?_
            rintro e t14 ⟨rfl, d14, rfl⟩
            go_wp2_with fail
            refine (Load_h (G13.drewN _) 1 rfl _).mono ?_
            rw [E3.out]
            have kk3 : (n != IntKind.u64.wrap n) = false := by rw [hnw]; simp
            clear hnw
            rintro e t15 ⟨rfl, G15⟩
            go_upto_if 171 with (fail)
            clear hs sfz kk kk2 kk3 hb1 hb2 hb3 hb4
            have sC := (own_atV (G15.get 2 rfl) (by omega))
            obtain ⟨g2, off2, hgo, -, -, -, scell, sfz⟩ := sC
            obtain ⟨rfl, rfl⟩ : eb = g2 ∧ 0 = off2 := by injection hgo with q1; injection q1 with q2 q3; exact ⟨q2, q3⟩
            have hs := scell u _ (J.out.free u U.out.1 (by omega))
            rw [Nat.zero_add] at hs
            clear scell hgo
            have G16 := G15.ownSet0 2 rfl u (.bool true) (by omega)
            have KK : ∃ cn', Has w (t15.setCell ⟨eb, u, none⟩ (.bool true)) [mapC _ mb av rv c, storeC _ sb sg L cn', ownC _ 4 1 (.slice (some ⟨eb, 0, none⟩) N N) N (xs.set u (.bool true))] := ⟨_, G16.pick [0, 1, 2] (by decide) (by simp)⟩
            obtain ⟨cn', G17⟩ := KK
            obtain ⟨W17, HW17, e17⟩ := G17.name
            clear G16 G15 G13 G11 G9 G6
            go_upto_region 35 with (fail)
            rw [← e17.out]
            clear e17 G17 hs sfz
            go_wp2_with fail
            go_loopw [25] (fun iv wr => ∃ (i cn : Int), 0 ≤ i ∧ i ≤ 16 ∧ iv = .int .i64 i ∧ Has w wr [mapC _ mb av rv c, storeC _ sb sg L cn, ownC _ 4 1 (.slice (some ⟨eb, 0, none⟩) N N) N (xs.set u (.bool true))]) (fun iv _ => 20 - (intOf iv).toNat)
            case atStart => exact ⟨0, cn', by omega, by omega, rfl, HW17⟩
            case round =>
            obtain ⟨i, ci, i1, i2, rfl, G18⟩ := hrel
            clear HW17
            have hrm := roomAt_pos (c := c) (u : Int) ⟨hu1, by omega⟩
            obtain ⟨rm, hrmd⟩ : ∃ rm, rm = c.roomAt u := ⟨_, rfl⟩
            rw [← hrmd] at hrm
            have RM := Lib.hid hrmd
            go_wp2_with fail
            refine (Room_q (G18.mAt 0 rfl h) u).mono ?_
            rw [← hrmd]
            clear hrmd
            rintro e t16 ⟨rfl, d16, rfl⟩
            by_cases hi : i < rm
            · go_wp2_with fail
              refine (Slot_q ((G18.drewN _).mAt 0 rfl h) u i).mono ?_
              rintro e t17 ⟨rfl, d17, rfl⟩
              go_wp2_with fail
              refine (Load_h (G18.drewN _) 1 rfl _).mono ?_
              rw [E4.out i i1 (by rw [← RM.out]; exact hi)]
              rintro e t18 ⟨rfl, G19⟩
              go_wp2_with fail
              go_roundw
              case rel => exact ⟨i + 1, wrap64 (ci + 1), by omega, by omega, by go_num, G19⟩
              case measure => simp [intOf]; omega
            · rw [← HL.out] at J2
              have HJ := Lib.hid hj
              clear hj hu1 hu3 hu4 J IT IO E1 E2 E3 E4 RM U HL
              go_wp2_with fail
              go_roundw
              case rel => exact ⟨j + 1, L, ci, u, xs.set u (.bool true), by omega, by have := HJ.out; omega, by go_num, J2, G18.drewN _⟩
              case measure => have := HJ.out; simp [intOf]; omega
        · have hjF : j = F := by omega
          have hz : mld l (c.headAt K) % 4294967296 = 0 := by
            rw [J.out.ai.head]
            refine (left_zero h K last).1 ?_
            have := J.out.left
            rw [← HF.out] at this
            omega
          have HZ := Lib.hid hz
          have hfs := full_step (c := c) (l := l) (n := n) (mk := mk) (by rw [← HKS.out]; exact hk0) (by rw [← HKS.out]; exact hz)
          have FS := Lib.hid hfs
          have hll : l.length < 1000000000000 := by rw [J.out.ai.len]; exact first_bd h
          have hw20 : walkN c l (20 : Int).toNat (c.headAt K) = [] := walkN_stop _ _ _ _ (by rintro ⟨_, _, _, q⟩; exact q hz)
          have W20 := Lib.hid hw20
          have HLL := Lib.hid hll
          clear hz hfs hjF hw20 hll
          go_wp2_with fail
          refine (All_h G4 1 rfl HLL.out).mono ?_
          rintro e t5 ⟨wv, rfl, G5⟩
          go_wp2_with fail
          refine (hpNew_h G5 mb n mk).mono ?_
          rintro e t6 ⟨yb, rfl, G6⟩
          go_wp2_with fail
          refine (hpStep_h G6 1 4 0 rfl rfl (by decide) (by decide) (by decide) h (hpNew n mk) rfl (hpOk_new _ _) (wm_mld J.out.ai.wm)).mono ?_
          rw [FS.out]
          rintro e t7 ⟨rfl, G7⟩
          go_wp2_with fail
          refine (Node_q G7 4 _ rfl).mono ?_
          rintro e t8 ⟨rfl, d8, rfl⟩
          go_wp2_with fail
          refine (All_h (G7.drewN _) 1 rfl HLL.out).mono ?_
          rintro e t9 ⟨sv, rfl, G9⟩
          have kl : (l == l) = true := by simp
          obtain ⟨wa, wc, rfl⟩ : ∃ wa wc, wv = .slice wa l.length wc := by
            obtain ⟨a, b, e, _⟩ := G9.get 3 rfl
            exact ⟨a, b, e⟩
          go_wp2_with fail
          refine (RSame_h G9 5 rfl 3 rfl HLL.out).mono ?_
          rintro e t10 ⟨rfl, d10, rfl⟩
          go_wp2_with fail
          refine (Head_q ((G9.drewN _).mAt 0 rfl h) K).mono ?_
          rintro e t11 ⟨rfl, d11, rfl⟩
          go_wp2_with fail
          refine (Walk19_h (G9.drewN _) 3 0 (c.headAt K) 20 rfl rfl h (by decide)).mono ?_
          rw [W20.out]
          rintro e t12 ⟨ov, rfl, G12⟩
          obtain ⟨oa, oc, rfl⟩ := own_is (G12.get _ (get_last _ _))
          go_wp2_with fail
          go_ret
          exact ⟨rfl, G12.below⟩
--]S
--]K

set_option maxRecDepth 100000 in
theorem walk_HeapAlone (c0 c1 c2 c3 c4 mr mu dq ch bf rt sw sl mk : Int) (w : World) (s0 : 0 ≤ sl) (s1 : sl < 256) (m0 : 0 ≤ mk) (m1 : mk < 18446744073709551616) :
    Calls Try.prog 5 #[.agg #[.int .i64 c0, .int .i64 c1, .int .i64 c2, .int .i64 c3, .int .i64 c4, .int .i64 mr, .int .i64 mu, .int .i64 dq, .int .i64 ch, .int .i64 bf, .int .i64 rt, .int .i64 sw], .int .u8 sl, .int .u64 mk] w fun e w' => e = .returned (.bool true) ∧ Below w.heap.size w w' :=
  halone_ok ⟨c0, c1, c2, c3, c4, mr, mu, dq, ch, bf, rt, sw⟩ sl mk w s0 s1 m0 m1
end Go.Proofs.Ytmiaghbakdapbaa
