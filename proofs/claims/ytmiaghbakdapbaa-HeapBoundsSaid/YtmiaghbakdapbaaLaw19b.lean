/- The walk of HeapBounds: it answers true, and nothing that was there is changed. No condition but that the arguments can be read. -/
import Derived.Test.YtmiaghbakdapbaaAw19
import Derived.Test.YtmiaghbakdapbaaRef2
set_option linter.unusedVariables false
set_option linter.unusedSimpArgs false
namespace Go.Proofs.Ytmiaghbakdapbaa
open Go.ChangeShapes Go.WideShapes Go.ChangeAt Go.RowKit

theorem or_comm64 (a b : Int) (a0 : 0 ≤ a) (a1 : a < 18446744073709551616) (b0 : 0 ≤ b) (b1 : b < 18446744073709551616) : bits .or .u64 a b = bits .or .u64 b a := by
  obtain ⟨n, rfl⟩ := Int.eq_ofNat_of_zero_le a0
  obtain ⟨m, rfl⟩ := Int.eq_ofNat_of_zero_le b0
  rw [bits_or_nat n m (by omega) (by omega), bits_or_nat m n (by omega) (by omega), Nat.or_comm]
theorem poke_num (h x : Int) (h0 : 0 ≤ h) (h1 : h < 18446744073709551616) : bits .or .u64 (bits .and .u64 h 4294967295) (IntKind.u64.wrap (x * 4294967296)) = x % 4294967296 * 4294967296 + h % 4294967296 := by
  rw [and32 h h0 h1, IntKind.wrap_u64]
  have e : x * 4294967296 % 18446744073709551616 = x % 4294967296 * 4294967296 := by omega
  rw [e, or_comm64 _ _ (by omega) (by omega) (by omega) (by omega), or32 _ _ (by omega) (by omega) (by omega) (by omega)]

--[OK
set_option maxRecDepth 100000 in
set_option maxHeartbeats 16000000 in
theorem hbounds_ok (c : Cfg) (sl : Int) (pa : Option Addr) (pc np : Nat) (w : World) (hrow : IsRows [.int .i64, .int .u64] w (.slice pa np pc) np) (h8 : ¬ (40 : Int) < (np : Int)) :
    Calls Try.prog 3 #[cfgV c, .int .i64 sl, .slice pa np pc] w fun e w' => e = .returned (.bool true) ∧ Below w.heap.size w w' := by
  have ROW := Lib.hid hrow
  clear hrow
  unfold cfgV cfgCells
  go_enter Try.func3, Try.ntmps3
  have G0 := (Has.nil w).blkNew (cfgCells c) 24
  go_wp2_with fail
  refine (awake19 _).mono ?_
  rintro e w1 ⟨rfl, q1⟩
  have G1 := G0.up q1
  obtain ⟨b0, b1, b2, b3, b4, b5, b6, b7, b8, b9, b10, b11, fb⟩ := row12 (G1.get 0 rfl)
  clear G0 q1
  go_wp2_with fail
  refine (small19_c c _).mono ?_
  rintro e w2 ⟨b, rfl, hb, q2⟩
  have G2 := G1.up q2
  clear G1 q2 b0 b1 b2 b3 b4 b5 b6 b7 b8 b9 b10 b11 fb
  have HB := Lib.hid hb
  clear hb
  cases b with
  | false =>
    go_wp2_with fail
    go_ret
    exact ⟨rfl, G2.below⟩
  | true =>
    have h : CfgOk c := (cfgOk_iff c).1 (HB.out rfl)
    have hc := Lib.hid h
    obtain ⟨b0, b1, b2, b3, b4, b5, b6, b7, b8, b9, b10, b11, fb⟩ := row12 (G2.get 0 rfl)
    go_wp2_with fail
    refine (New_m G2 c h).mono ?_
    rintro e w3 ⟨mb, av, rv, rfl, G3⟩
    clear G2 b0 b1 b2 b3 b4 b5 b6 b7 b8 b9 b10 b11 fb
    go_wp2_with fail
    refine (First_h G3 1 rfl h).mono ?_
    rintro e w7 ⟨g, gn, rfl, G7⟩
    go_wp2_with fail
    refine (New_h G7 _ c.first (sl_of_ownN (G7.get 2 rfl)) (first_bd h)).mono ?_
    rintro e w8 ⟨sb, sg, rfl, G8'⟩
    have G8 := G8'.pick [1, 3] (by decide) (by simp)
    clear G7 G8' G3
    go_wp2_with fail
    refine (ROf_c sl _).mono ?_
    obtain ⟨K, hK⟩ : ∃ K, K = sOf sl := ⟨_, rfl⟩
    rw [← hK]
    rintro e w9 ⟨rfl, d9, rfl⟩
    have I0 := Lib.hid (hbI_new h sl)
    have HK := Lib.hid hK
    clear hK
    by_cases hk : 0 ≤ K
    · have hw : wrap64 (15 + sSlots K) = hpWant sl := by
        have hS := sSlots_hi K
        have hS0 := (sSlots_bd K).1
        unfold hpWant; rw [← HK.out, if_pos hk]; unfold wrap64; omega
      have HW := Lib.hid hw
      clear hw
      go_wp2_with fail
      refine (RSlots_c K _).mono ?_
      rintro e w10 ⟨rfl, d10, rfl⟩
      go_wp2_with fail
      refine (hpNew_h (G8.drewN _) mb sl 1).mono ?_
      rintro e w11 ⟨xb, rfl, G11⟩
      clear G8
      go_wp2_with fail
      rw [HW.out]
      clear HW
      obtain ⟨wn, hwn⟩ : ∃ wn, wn = hpWant sl := ⟨_, rfl⟩
      rw [← hwn]
      have HWN := Lib.hid hwn
      clear hwn
      have hk5 : K < 5 := by rw [HK.out]; exact sOf_five sl
      go_loopw [15, 16] (fun nv hv wr => ∃ (i : Nat) (l : List Int) (n : Int) (m : Hp), nv = .int .i64 i ∧ Hid (HbI c sl l m i) ∧ Has w wr [mapC _ mb av rv c, storeC _ sb sg l n, hpC _ xb mb m]) (fun nv hv _ => 60 - (intOf nv).toNat)
      case atStart => exact ⟨0, c.first, 0, hpNew sl 1, rfl, I0, G11⟩
      case round =>
      obtain ⟨i, l, n, m, rfl, HI, G⟩ := hrel
      clear G11 I0
      have hi60 : (i : Int) < 60 := (hbI_done HI.out).2
      go_wp2_with fail
      refine (hpStep_h G 1 2 0 rfl rfl (by decide) (by decide) (by decide) h m rfl HI.out.ok (wm_mld HI.out.wm)).mono ?_
      rintro e t1 ⟨rfl, H1⟩
      obtain ⟨b, hb⟩ : ∃ b, b = ((hpStep c l m).2.pc == 0) := ⟨_, rfl⟩
      rw [← hb]
      cases b with
      | true =>
        have HD := Lib.hid (hbI_done HI.out).1
        rw [← HWN.out] at HD
        clear HI hb
        go_wp2_with fail
        refine (Steps_c sl _).mono ?_
        rw [← HWN.out]
        rintro e t2 ⟨rfl, d2, rfl⟩
        have hw1 : 1 ≤ wn := by
          rw [HWN.out]; have := (sSlots_bd (sOf sl)).1; unfold hpWant; rw [if_pos (by rw [← HK.out]; exact hk)]; omega
        have hd : (i : Int) < wn := by have := HD.out; omega
        go_wp2_with fail
        go_ret
        exact ⟨rfl, (H1.drewN _).below⟩
      | false =>
        have HI2 := Lib.hid (hbI_step h HI.out (by intro q; rw [q] at hb; exact absurd hb (by decide)))
        clear HI hb G
        obtain ⟨l', hl'⟩ : ∃ q, q = (hpStep c l m).1 := ⟨_, rfl⟩
        obtain ⟨m', hm'⟩ : ∃ q, q = (hpStep c l m).2 := ⟨_, rfl⟩
        obtain ⟨n', hn'⟩ : ∃ q, q = hpCount m n := ⟨_, rfl⟩
        rw [← hl', ← hm', ← hn'] at H1
        rw [← hl', ← hm'] at HI2
        clear hl' hm' hn'
        have H2 := H1.pick [0, 1, 2] (by decide) (by simp)
        clear H1
        by_cases hp : i < np
        · have hp' : (i : Int) < (np : Int) := by omega
          obtain ⟨pb, poff, pcap, hpv, hpb, hrows⟩ := rows_at ROW.out (by omega) (by decide)
          simp only [Value.slice.injEq] at hpv
          obtain ⟨rfl, -, rfl⟩ := hpv
          obtain ⟨vs, hsc, hcl⟩ := hrows i hp
          obtain ⟨p0, p1, rfl, ⟨at_, rfl, w0'⟩, ⟨x, rfl, w1'⟩⟩ := scal2 hsc
          have hcl1 := Lib.hid (hcl 1 (by decide))
          have hpb' := Lib.hid hpb
          clear hrows hsc hcl hpb
          go_wp2_with fail
          refine (Head_q (H2.mAt 0 rfl h) K).mono ?_
          rintro e t2 ⟨rfl, d2, rfl⟩
          go_wp2_with fail
          refine (Load_h (H2.drewN _) 1 rfl _).mono ?_
          obtain ⟨hv, hhv⟩ : ∃ q, q = mld l' (c.headAt K) := ⟨_, rfl⟩
          rw [← hhv]
          have HHV := Lib.hid hhv
          clear hhv
          rintro e t3 ⟨rfl, H3⟩
          have d1 : t3.cell? ⟨pb, poff + i * 2 + 1, none⟩ = some (.int .u64 x) := (H3.below.cell (p := ⟨pb, poff + i * 2 + 1, none⟩) hpb'.out).trans hcl1.out
          go_wp2_with fail
          go_region_held3 (fun w' => w'.cell? ⟨pb, poff + i * 2 + 1, none⟩ = some (.int .u64 x)) (first | (with_reducible assumption) | (simp only [cell_drewN1, cell_drew1]; with_reducible assumption)) (first | (go_at_call 19; refine (Head_q ((H3.drewN _).mAt 0 rfl h) _).mono ?_; rintro e t4 ⟨rfl, d4, rfl⟩) | (go_at_call 20; refine (Put_h (H3.drewN _) 1 rfl _ _).mono ?_; rintro e t5 ⟨rfl, H5⟩; have d2 : t5.cell? ⟨pb, poff + i * 2 + 1, none⟩ = some (.int .u64 x) := (H5.below.cell (p := ⟨pb, poff + i * 2 + 1, none⟩) hpb'.out).trans hcl1.out))
          have hvb : 0 ≤ hv ∧ hv < 18446744073709551616 := by rw [HHV.out]; exact wm_mld HI2.out.1.wm _
          obtain ⟨X, hX⟩ : ∃ X, X = bits .or .u64 (bits .and .u64 hv 4294967295) (IntKind.u64.wrap (x * 4294967296)) := ⟨_, rfl⟩
          rw [← hX] at H5
          rw [poke_num hv x hvb.1 hvb.2] at hX
          have hb2 : 0 ≤ sOf sl := HI2.out.2
          have e5 : X % 4294967296 = mld l' (c.headAt (sOf sl)) % 4294967296 := by rw [← HK.out, ← HHV.out]; omega
          have HI3 := Lib.hid (hbI_put hc.out HI2.out.1 hb2 X (by omega) e5)
          rw [← HK.out] at HI3
          clear hX e5 hb2 hvb
          have H6 := H5.pick [0, 1, 2] (by decide) (by simp)
          clear H5 H3 H2
          go_wp2_with fail
          go_roundw
          case rel => exact ⟨i + 1, mput l' (c.headAt K) X, wrap64 (wrap64 (n' + 1) + 1), m', by go_num, HI3, H6⟩
          case measure => simp [intOf]; omega
        · have hp' : ¬ (i : Int) < (np : Int) := by omega
          go_wp2_with fail
          go_roundw
          case rel => exact ⟨i + 1, l', n', m', by go_num, Lib.hid HI2.out.1, H2⟩
          case measure => simp [intOf]; omega
    · go_wp2_with fail
      refine (hpNew_h (G8.drewN _) mb sl 1).mono ?_
      rintro e w11 ⟨xb, rfl, G11⟩
      go_wp2_with fail
      have hp0 : (hpNew sl 1).pc = 0 := by
        rcases I0.out.rk with ⟨h1, h2, -⟩ | ⟨h1, -⟩
        · exact h2
        · rw [← HK.out] at h1; omega
      have hs0 : (hpStep c c.first (hpNew sl 1)).2.pc = 0 := by rw [hpStep_end c c.first _ hp0]; exact hp0
      have hw0 : hpWant sl = 0 := by unfold hpWant; rw [if_neg (by rw [← HK.out]; omega)]
      have HS0 := Lib.hid hs0
      have HW0 := Lib.hid hw0
      clear hs0 hw0 hp0
      refine wp_loop_rounds 1 ?_
      rw [rounds_succ]
      go_wp2_with fail
      refine (hpStep_h G11 1 2 0 rfl rfl (by decide) (by decide) (by decide) h (hpNew sl 1) rfl I0.out.ok (wm_mld I0.out.wm)).mono ?_
      rw [HS0.out]
      rintro e t1 ⟨rfl, H1⟩
      go_wp2_with fail
      refine (Steps_c sl _).mono ?_
      rw [HW0.out]
      rintro e t2 ⟨rfl, d2, rfl⟩
      go_wp2_with fail
      go_ret
      exact ⟨rfl, (H1.drewN _).below⟩
--]OK
set_option maxRecDepth 100000 in
theorem hbounds_big (c : Cfg) (sl : Int) (pa : Option Addr) (pc np : Nat) (w : World) (h8 : (40 : Int) < (np : Int)) :
    Calls Try.prog 3 #[cfgV c, .int .i64 sl, .slice pa np pc] w fun e w' => e = .returned (.bool true) ∧ Below w.heap.size w w' := by
  unfold cfgV cfgCells
  go_enter Try.func3, Try.ntmps3
  have G0 := (Has.nil w).blkNew (cfgCells c) 24
  go_wp2_with fail
  refine (awake19 _).mono ?_
  rintro e w1 ⟨rfl, q1⟩
  have G1 := G0.up q1
  obtain ⟨b0, b1, b2, b3, b4, b5, b6, b7, b8, b9, b10, b11, fb⟩ := row12 (G1.get 0 rfl)
  clear G0 q1
  go_wp2_with fail
  refine (small19_c c _).mono ?_
  rintro e w2 ⟨b, rfl, hb, q2⟩
  have G2 := G1.up q2
  clear hb
  cases b with
  | false =>
    go_wp2_with fail
    go_ret
    exact ⟨rfl, G2.below⟩
  | true =>
    go_wp2_with fail
    go_ret
    exact ⟨rfl, G2.below⟩

theorem walk_HeapBounds (c0 c1 c2 c3 c4 mr mu dq ch bf rt sw sl : Int) (pa : Option Addr) (pl pc np : Nat) (w : World) (hp : IsRows [.int .i64, .int .u64] w (.slice pa pl pc) np) :
    Calls Try.prog 3 #[.agg #[.int .i64 c0, .int .i64 c1, .int .i64 c2, .int .i64 c3, .int .i64 c4, .int .i64 mr, .int .i64 mu, .int .i64 dq, .int .i64 ch, .int .i64 bf, .int .i64 rt, .int .i64 sw], .int .i64 sl, .slice pa pl pc] w fun e w' => e = .returned (.bool true) ∧ Below w.heap.size w w' := by
  obtain rfl : pl = np := by
    rcases hp with ⟨h, h0⟩ | ⟨y, c, h, _⟩
    · cases h; exact h0.symm
    · cases h; rfl
  by_cases h2 : (40 : Int) < (pl : Int)
  · exact hbounds_big ⟨c0, c1, c2, c3, c4, mr, mu, dq, ch, bf, rt, sw⟩ sl pa pc pl w h2
  · exact hbounds_ok ⟨c0, c1, c2, c3, c4, mr, mu, dq, ch, bf, rt, sw⟩ sl pa pc pl w hp h2

end Go.Proofs.Ytmiaghbakdapbaa
