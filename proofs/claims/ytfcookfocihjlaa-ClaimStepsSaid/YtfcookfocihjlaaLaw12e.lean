/- The walk of ClaimSteps: it answers true, and nothing that was there is changed. No condition but that the arguments can be read. -/
import Derived.Test.YtfcookfocihjlaaStep12
import Derived.Test.YtfcookfocihjlaaNil12
import Derived.Test.YtfcookfocihjlaaLaw12d
set_option linter.unusedVariables false
set_option linter.unusedSimpArgs false
namespace Go.Proofs.Ytfcookfocihjlaa
open Go.ChangeShapes Go.WideShapes Go.ChangeAt Go.RowKit

theorem first_len12 {c : Cfg} (h : CfgOk c) : c.first.length < 1000000000000 := by
  rw [first_len]; have := (cfg_bd h).al; have := (cfg_bd h).n0; omega

theorem clStep_len (c : Cfg) (l : List Int) (m : Cl) : (clStep c l m).1.length = l.length := by
  obtain ⟨v, cy, k, won, pc⟩ := m
  match pc with
  | 0 => rfl
  | 1 => rfl
  | 2 => exact mput_length _ _ _
  | 3 => show (mswap _ _ _ _).length = _; unfold mswap; split <;> simp [mput_length]
  | _ + 4 => exact mput_length _ _ _

theorem clStep_pc (c : Cfg) (l : List Int) (m : Cl) (h : m.pc ≤ 4) : (clStep c l m).2.pc ≤ 4 := by
  obtain ⟨v, cy, k, won, pc⟩ := m
  have pc4 : ∀ (b : Bool) (q : Nat), q ≤ 4 → clPc b q ≤ 4 := fun b q hq => by
    cases b
    · exact hq
    · exact Nat.zero_le _
  match pc with
  | 0 => exact Nat.zero_le _
  | 1 => exact pc4 _ 2 (by omega)
  | 2 => exact (by omega : 3 ≤ 4)
  | 3 => exact pc4 _ 4 (by omega)
  | _ + 4 => exact Nat.zero_le _

theorem clCount_eq (m : Cl) (n : Int) : (clCount m n == IntKind.i64.wrap (n + 1)) = decide (0 < m.pc) := by
  have e0 : IntKind.i64.wrap (n + 1) = wrap64 (n + 1) := by simp [IntKind.wrap, IntKind.bits, IntKind.signed, wrap64]; try omega
  have hne : (n == wrap64 (n + 1)) = false := by simp; unfold wrap64; omega
  rw [e0]
  unfold clCount
  match hm : m.pc with
  | 0 => simp only [beq_self_eq_true, cond_true]; rw [hne]; rfl
  | k + 1 =>
    have : (k + 1 == 0) = false := by simp
    rw [this]; simp only [cond_false, beq_self_eq_true]
    symm; simp

/-- What holds between two rounds: so many words, the machine's next step, and how many it has yet to make. -/
structure CInv (np i : Nat) (v : Int) (l : List Int) (m : Cl) : Prop where
  len : l.length < 1000000000000
  pc : m.pc ≤ 4
  rk : rank m ≤ 4
  last : np ≤ i → rank m + i ≤ np + 4 ∨ rank m = 0
theorem cinv_step {np i : Nat} {v : Int} {l : List Int} {m : Cl} (c : Cfg) (h : CInv np i v l m) : CInv np (i + 1) v (clStep c l m).1 (clStep c l m).2 := by
  have h1 := rank_step c l m h.pc
  refine ⟨by rw [clStep_len]; exact h.len, clStep_pc c l m h.pc, by have := h.rk; omega, fun hi => ?_⟩
  by_cases q : np ≤ i
  · rcases h.last q with r | r <;> omega
  · have := h.rk; omega
theorem cinv_put {np i : Nat} {v : Int} {l : List Int} {m : Cl} (h : CInv np i v l m) (a x : Int) : CInv np i v (mput l a x) m := ⟨by rw [mput_length]; exact h.len, h.pc, h.rk, h.last⟩
theorem cinv_end {np : Nat} {v : Int} {l : List Int} {m : Cl} (h : CInv np (np + 5) v l m) : m.pc = 0 := by
  have h1 : rank m = 0 := by rcases h.last (by omega) with r | r <;> omega
  have h2 := h.pc
  unfold rank at h1
  split at h1 <;> omega

set_option maxRecDepth 100000 in
set_option maxHeartbeats 16000000 in
theorem csteps_ok (c : Cfg) (v cy : Int) (pa : Option Addr) (pc np : Nat) (w : World) (hrow : IsRows [.int .i64, .int .u64] w (.slice pa np pc) np) (h8 : ¬ (8 : Int) < (np : Int)) :
    Calls Try.prog 7 #[cfgV c, .int .i64 v, .int .u64 cy, .slice pa np pc] w fun e w' => e = .returned (.bool true) ∧ Below w.heap.size w w' := by
  have ROW := Lib.hid hrow
  clear hrow
  unfold cfgV cfgCells
  go_enter Try.func7, Try.ntmps7
  have G0 := (Has.nil w).blkNew (cfgCells c) 30
  go_wp2_with fail
  refine (awake12 _).mono ?_
  rintro e w1 ⟨rfl, q1⟩
  have G1 := G0.up q1
  obtain ⟨b0, b1, b2, b3, b4, b5, b6, b7, b8, b9, b10, b11, fb⟩ := row12 (G1.get 0 rfl)
  clear G0 q1
  go_wp2_with fail
  refine (small12_c c _).mono ?_
  rintro e w2 ⟨b, rfl, hb, q2⟩
  have G2 := G1.up q2
  clear G1 q2 b0 b1 b2 b3 b4 b5 b6 b7 b8 b9 b10 b11 fb
  have HB := Lib.hid hb
  clear hb
  cases b with
  | false =>
    go_wp2_with fail
    go_ret
    exact ⟨rfl, G2.below⟩
  | true =>
    have h : CfgOk c := (cfgOk_iff c).1 (HB.out rfl)
    obtain ⟨b0, b1, b2, b3, b4, b5, b6, b7, b8, b9, b10, b11, fb⟩ := row12 (G2.get 0 rfl)
    go_wp2_with fail
    refine (New_m G2 c h).mono ?_
    rintro e w3 ⟨mb, av, rv, rfl, G3⟩
    clear G2 b0 b1 b2 b3 b4 b5 b6 b7 b8 b9 b10 b11 fb
    obtain ⟨b0, b1, b2, b3, b4, b5, b6, b7, b8, b9, b10, b11, fb⟩ := row12 (G3.get 0 rfl)
    go_wp2_with fail
    refine (model12_c c _).mono ?_
    rintro e w4 ⟨rfl, q4⟩
    have G4 := G3.up q4
    clear G3 q4 b0 b1 b2 b3 b4 b5 b6 b7 b8 b9 b10 b11 fb
    go_wp2_with fail
    refine (RMap11_h G4 c h).mono ?_
    rintro e w5 ⟨lv, rfl, G5⟩
    obtain ⟨la, lc, rfl⟩ := own_is (G5.get 2 rfl)
    clear G4
    have G6 := G5.blkNew #[.slice la c.things.length lc, .int .i64 c.mn] 56
    obtain ⟨ab, hab⟩ : ∃ ab, ab = w5.heap.size := ⟨_, rfl⟩
    go_wp2_with fail
    rw [← hab] at G6 ⊢
    obtain ⟨W6, HW6, eW6⟩ := G6.name
    rw [← eW6.out]
    clear G5 G6 eW6 hab
    refine (First_h HW6 1 rfl h).mono ?_
    rintro e w7 ⟨g, gn, rfl, G7⟩
    go_wp2_with fail
    refine (New_h G7 _ c.first (sl_of_ownN (G7.get 4 rfl)) (first_len12 h)).mono ?_
    rintro e w8 ⟨sb, sg, rfl, G8'⟩
    have G8 := G8'.pick [0, 1, 2, 3, 5] (by decide) (by simp)
    clear G7 G8' HW6
    go_wp2_with fail
    refine (All_h G8 4 rfl (first_len12 h)).mono ?_
    rintro e w9 ⟨mv, rfl, G9⟩
    go_wp2_with fail
    refine (clNew_h G9 mb v cy).mono ?_
    rintro e w10 ⟨xb, rfl, G10⟩
    go_wp2_with fail
    refine (RNew12_c v cy _).mono ?_
    rintro e w11 ⟨rfl, q11⟩
    have G11 := (G10.up q11).blkNew #[.int .i64 1, .int .i64 v, .int .u64 cy, .int .u64 0, .bool false] 61
    clear G8 G9 G10 q11
    go_wp2_with fail
    obtain ⟨yb, hyb⟩ : ∃ yb, yb = w11.heap.size := ⟨_, rfl⟩
    rw [← hyb] at G11 ⊢
    clear hyb
    go_loopw [15, 18, 19, 20, 21, 22, 23, 24] (fun mv iv u19 u20 u21 u22 u23 u24 wr => ∃ (i : Nat) (l : List Int) (n : Int) (m : Cl), i ≤ np + 5 ∧ iv = .int .i64 i ∧ Hid (CInv np i v l m) ∧ Has w wr [blkC _ w.heap.size (cfgCells c) 30, mapC _ mb av rv c, ownT _ (.slice la c.things.length lc) c.things, blkC _ ab #[.slice la c.things.length lc, .int .i64 c.mn] 56, storeC _ sb sg l n, slC _ .u64 mv l, clC _ xb mb m, blkC _ yb #[.int .i64 m.pc, .int .i64 m.v, .int .u64 m.cy, .int .u64 m.k, .bool m.won] 61]) (fun _ iv _ _ _ _ _ _ _ => 14 - (intOf iv).toNat)
    case atStart => exact ⟨0, c.first, 0, ⟨v, cy, 0, false, 1⟩, by omega, rfl, Lib.hid ⟨first_len12 h, (show (1 : Nat) ≤ 4 by decide), (show (4 : Nat) ≤ 4 by decide), fun hp => .inl (by show 4 + 0 ≤ np + 4; omega)⟩, G11⟩
    case round =>
    obtain ⟨i, l, n, m, hi, rfl, HI, G⟩ := hrel
    clear G11
    by_cases hlt : i < np + 5
    · have hlt' : (i : Int) < (np : Int) + 5 := by omega
      by_cases hp : i < np
      · have hp' : (i : Int) < (np : Int) := by omega
        obtain ⟨pb, poff, pcap, hpv, hpb, hrows⟩ := rows_at ROW.out (by omega) (by decide)
        simp only [Value.slice.injEq] at hpv
        obtain ⟨rfl, -, rfl⟩ := hpv
        obtain ⟨vs, hsc, hcl⟩ := hrows i hp
        obtain ⟨p0, p1, rfl, ⟨at_, rfl, w0'⟩, ⟨x, rfl, w1'⟩⟩ := scal2 hsc
        have hcl0 := Lib.hid (hcl 0 (by decide))
        have hcl1 := Lib.hid (hcl 1 (by decide))
        have d0 : wr.cell? ⟨pb, poff + i * 2, none⟩ = some (.int .i64 at_) := (G.below.cell (p := ⟨pb, poff + i * 2, none⟩) hpb).trans hcl0.out
        have d1 : wr.cell? ⟨pb, poff + i * 2 + 1, none⟩ = some (.int .u64 x) := (G.below.cell (p := ⟨pb, poff + i * 2 + 1, none⟩) hpb).trans hcl1.out
        have hpb' := Lib.hid hpb
        clear hrows hsc hcl hpb
        by_cases hat : (1 : Int) < at_
        · go_wp2_with fail
          refine (Mark_q (G.mAt 1 rfl h) v).mono ?_
          rintro e t0 ⟨rfl, dm, rfl⟩
          go_wp2_with fail
          refine (Put_h (G.drewN _) 4 rfl _ x).mono ?_
          rintro e t1 ⟨rfl, P1⟩
          have e1 : t1.cell? ⟨pb, poff + i * 2 + 1, none⟩ = some (.int .u64 x) := (P1.below.cell (p := ⟨pb, poff + i * 2 + 1, none⟩) hpb'.out).trans hcl1.out
          clear d0 d1
          go_wp2_with fail
          refine (RPut_h P1 5 rfl _ x HI.out.len).mono ?_
          rintro e t2 ⟨mv2, rfl, P2⟩
          have HI2 := Lib.hid (cinv_put HI.out (c.nodeAt v 2) x)
          clear P1 e1 G HI hat
          have a0 := blk_at (P2.get 3 rfl) 0 (u := .slice la c.things.length lc) rfl
          have a1 := blk_at (P2.get 3 rfl) 1 (u := .int .i64 c.mn) rfl
          obtain ⟨y0, y1, y2, y3, y4, fy⟩ := row5 (P2.get 7 rfl)
          go_wp2_with fail
          refine (Count_h P2 4 rfl).mono ?_
          rintro e x1 ⟨rfl, hw⟩
          obtain rfl := hw.symm
          go_wp2_with fail
          refine (clStep_h P2 4 6 1 m rfl rfl rfl (by decide) h).mono ?_
          rintro e x2 ⟨rfl, H1⟩
          clear a0 a1 y0 y1 y2 y3 y4 fy
          have a0 := blk_at (H1.get 3 rfl) 0 (u := .slice la c.things.length lc) rfl
          have a1 := blk_at (H1.get 3 rfl) 1 (u := .int .i64 c.mn) rfl
          obtain ⟨y0, y1, y2, y3, y4, fy⟩ := row5 (H1.get 7 rfl)
          go_wp2_with fail
          refine (RStep12_h H1 5 2 c.mn m HI2.out.pc rfl rfl h HI2.out.len).mono ?_
          rintro e x3 ⟨mv', rfl, H2⟩
          unfold clV
          have f5b := clCount_eq m (wrap64 (n + 1))
          have HI3 := Lib.hid (cinv_step c HI2.out)
          clear H1 P2 HI2 y0 y1 y2 y3 y4 fy a0 a1
          obtain ⟨l', hl'⟩ : ∃ q, q = (clStep c (mput l (c.nodeAt v 2) x) m).1 := ⟨_, rfl⟩
          obtain ⟨m', hm'⟩ : ∃ q, q = (clStep c (mput l (c.nodeAt v 2) x) m).2 := ⟨_, rfl⟩
          obtain ⟨n', hn'⟩ : ∃ q, q = clCount m (wrap64 (n + 1)) := ⟨_, rfl⟩
          rw [← hl', ← hm', ← hn'] at H2
          rw [← hl', ← hm'] at HI3
          rw [← hm']
          rw [← hn'] at f5b
          clear hl' hm' hn'
          obtain ⟨ma, mc, rfl⟩ : ∃ ma mc, mv' = .slice ma l'.length mc := by
            obtain ⟨ma, mc, h, _⟩ := H2.get 5 rfl
            exact ⟨ma, mc, h⟩
          obtain ⟨y0, y1, y2, y3, y4, fy⟩ := row5 (H2.get 7 rfl)
          have hx3 : yb < x3.heap.size := (H2.lt 7 _ rfl yb (by simp [blkC])).1
          have fq := fy 0
          go_wp2_with fail
          have H5 : Has w _ [blkC _ w.heap.size (cfgCells c) 30, mapC _ mb av rv c, ownT _ (.slice la c.things.length lc) c.things, blkC _ ab #[.slice la c.things.length lc, .int .i64 c.mn] 56, storeC _ sb sg l' n', slC _ .u64 (.slice ma l'.length mc) l', clC _ xb mb m', blkC _ yb #[.int .i64 m'.pc, .int .i64 m'.v, .int .u64 m'.cy, .int .u64 m'.k, .bool m'.won] 61] := ((((((H2.blkSet 7 rfl 0 (.int .i64 m'.pc)).blkSet 7 rfl 1 (.int .i64 m'.v)).blkSet 7 rfl 2 (.int .u64 m'.cy)).blkSet 7 rfl 3 (.int .u64 m'.k)).blkSet 7 rfl 4 (.bool m'.won)).alloc (.cells #[.int .i64 m'.pc, .int .i64 m'.v, .int .u64 m'.cy, .int .u64 m'.k, .bool m'.won] 61))
          obtain ⟨W, HW, eW⟩ := H5.name
          rw [← eW.out]
          clear H2 H5 eW y0 y1 y2 y3 y4 fy fq hx3
          have HD := HW.drew
          obtain ⟨y0, y1, y2, y3, y4, fy⟩ := row5 (HD.get 7 rfl)
          obtain ⟨o0, o1, o2, o3, o4, fo⟩ := row5 (HW.get 7 rfl)
          have f1b : ((m'.pc : Int) == 0) = (m'.pc == 0) := by
            by_cases q : m'.pc = 0
            · rw [q]; rfl
            · have : (m'.pc == 0) = false := by simpa using q
              rw [this]; simp; omega
          generalize (m'.pc == 0) = B at f1b ⊢
          generalize decide (0 < m.pc) = D at f5b ⊢
          go_region_held3 (fun w' => w'.cell? ⟨yb, 0, none⟩ = some (.int .i64 m'.pc) ∧ w'.cell? ⟨yb, 4, none⟩ = some (.bool m'.won)) (refine ⟨?_, ?_⟩ <;> (first | (with_reducible assumption) | (simp only [cell_drewN1, cell_drew1]; with_reducible assumption))) (first | (go_at_call 14; refine (clWon_h HD 6 m' rfl).mono ?_; rintro e v4 ⟨rfl, d4, rfl⟩; have H5 := HW.drewN d4; obtain ⟨z0, z1, z2, z3, z4, fz⟩ := row5 (H5.get 7 rfl)) | (go_at_call 19; refine (All_h (HW.drewN _) 4 rfl HI3.out.len).mono ?_; rintro e v7 ⟨sv, rfl, H6⟩; obtain ⟨u0, u1, u2, u3, u4, fu⟩ := row5 (H6.get 7 rfl)) | (go_at_call 27; refine (RSame_h H6 8 rfl 5 rfl HI3.out.len).mono ?_; rintro e v8 ⟨rfl, dn, rfl⟩; have H7 := H6.drewN dn; obtain ⟨s0, s1, s2, s3, s4, fs⟩ := row5 (H7.get 7 rfl)) | (go_at_call 25; refine (Count_h H7 4 rfl).mono ?_; rintro e v9 ⟨rfl, hw⟩; obtain rfl := hw.symm))
          have H8 := H7.pick [0, 1, 2, 3, 4, 5, 6, 7] (by decide) (by simp)
          clear H7 H6 H5 HD HW o0 o1 o2 o3 o4 fo y0 y1 y2 y3 y4 fy z0 z1 z2 z3 z4 fz u0 u1 u2 u3 u4 fu s0 s1 s2 s3 s4 fs
          go_wp2_with fail
          go_roundw
          case rel => exact ⟨i + 1, l', n', m', by omega, by go_num, HI3, H8⟩
          case measure => simp [intOf]; omega
        · go_wp2_with fail
          refine (Put_h G 4 rfl _ x).mono ?_
          rintro e t1 ⟨rfl, P1⟩
          have e1 : t1.cell? ⟨pb, poff + i * 2 + 1, none⟩ = some (.int .u64 x) := (P1.below.cell (p := ⟨pb, poff + i * 2 + 1, none⟩) hpb'.out).trans hcl1.out
          clear d0 d1
          go_wp2_with fail
          refine (RPut_h P1 5 rfl _ x HI.out.len).mono ?_
          rintro e t2 ⟨mv2, rfl, P2⟩
          have HI2 := Lib.hid (cinv_put HI.out at_ x)
          clear P1 e1 G HI hat
          have a0 := blk_at (P2.get 3 rfl) 0 (u := .slice la c.things.length lc) rfl
          have a1 := blk_at (P2.get 3 rfl) 1 (u := .int .i64 c.mn) rfl
          obtain ⟨y0, y1, y2, y3, y4, fy⟩ := row5 (P2.get 7 rfl)
          go_wp2_with fail
          refine (Count_h P2 4 rfl).mono ?_
          rintro e x1 ⟨rfl, hw⟩
          obtain rfl := hw.symm
          go_wp2_with fail
          refine (clStep_h P2 4 6 1 m rfl rfl rfl (by decide) h).mono ?_
          rintro e x2 ⟨rfl, H1⟩
          clear a0 a1 y0 y1 y2 y3 y4 fy
          have a0 := blk_at (H1.get 3 rfl) 0 (u := .slice la c.things.length lc) rfl
          have a1 := blk_at (H1.get 3 rfl) 1 (u := .int .i64 c.mn) rfl
          obtain ⟨y0, y1, y2, y3, y4, fy⟩ := row5 (H1.get 7 rfl)
          go_wp2_with fail
          refine (RStep12_h H1 5 2 c.mn m HI2.out.pc rfl rfl h HI2.out.len).mono ?_
          rintro e x3 ⟨mv', rfl, H2⟩
          unfold clV
          have f5b := clCount_eq m (wrap64 (n + 1))
          have HI3 := Lib.hid (cinv_step c HI2.out)
          clear H1 P2 HI2 y0 y1 y2 y3 y4 fy a0 a1
          obtain ⟨l', hl'⟩ : ∃ q, q = (clStep c (mput l at_ x) m).1 := ⟨_, rfl⟩
          obtain ⟨m', hm'⟩ : ∃ q, q = (clStep c (mput l at_ x) m).2 := ⟨_, rfl⟩
          obtain ⟨n', hn'⟩ : ∃ q, q = clCount m (wrap64 (n + 1)) := ⟨_, rfl⟩
          rw [← hl', ← hm', ← hn'] at H2
          rw [← hl', ← hm'] at HI3
          rw [← hm']
          rw [← hn'] at f5b
          clear hl' hm' hn'
          obtain ⟨ma, mc, rfl⟩ : ∃ ma mc, mv' = .slice ma l'.length mc := by
            obtain ⟨ma, mc, h, _⟩ := H2.get 5 rfl
            exact ⟨ma, mc, h⟩
          obtain ⟨y0, y1, y2, y3, y4, fy⟩ := row5 (H2.get 7 rfl)
          have hx3 : yb < x3.heap.size := (H2.lt 7 _ rfl yb (by simp [blkC])).1
          have fq := fy 0
          go_wp2_with fail
          have H5 : Has w _ [blkC _ w.heap.size (cfgCells c) 30, mapC _ mb av rv c, ownT _ (.slice la c.things.length lc) c.things, blkC _ ab #[.slice la c.things.length lc, .int .i64 c.mn] 56, storeC _ sb sg l' n', slC _ .u64 (.slice ma l'.length mc) l', clC _ xb mb m', blkC _ yb #[.int .i64 m'.pc, .int .i64 m'.v, .int .u64 m'.cy, .int .u64 m'.k, .bool m'.won] 61] := ((((((H2.blkSet 7 rfl 0 (.int .i64 m'.pc)).blkSet 7 rfl 1 (.int .i64 m'.v)).blkSet 7 rfl 2 (.int .u64 m'.cy)).blkSet 7 rfl 3 (.int .u64 m'.k)).blkSet 7 rfl 4 (.bool m'.won)).alloc (.cells #[.int .i64 m'.pc, .int .i64 m'.v, .int .u64 m'.cy, .int .u64 m'.k, .bool m'.won] 61))
          obtain ⟨W, HW, eW⟩ := H5.name
          rw [← eW.out]
          clear H2 H5 eW y0 y1 y2 y3 y4 fy fq hx3
          have HD := HW.drew
          obtain ⟨y0, y1, y2, y3, y4, fy⟩ := row5 (HD.get 7 rfl)
          obtain ⟨o0, o1, o2, o3, o4, fo⟩ := row5 (HW.get 7 rfl)
          have f1b : ((m'.pc : Int) == 0) = (m'.pc == 0) := by
            by_cases q : m'.pc = 0
            · rw [q]; rfl
            · have : (m'.pc == 0) = false := by simpa using q
              rw [this]; simp; omega
          generalize (m'.pc == 0) = B at f1b ⊢
          generalize decide (0 < m.pc) = D at f5b ⊢
          go_region_held3 (fun w' => w'.cell? ⟨yb, 0, none⟩ = some (.int .i64 m'.pc) ∧ w'.cell? ⟨yb, 4, none⟩ = some (.bool m'.won)) (refine ⟨?_, ?_⟩ <;> (first | (with_reducible assumption) | (simp only [cell_drewN1, cell_drew1]; with_reducible assumption))) (first | (go_at_call 14; refine (clWon_h HD 6 m' rfl).mono ?_; rintro e v4 ⟨rfl, d4, rfl⟩; have H5 := HW.drewN d4; obtain ⟨z0, z1, z2, z3, z4, fz⟩ := row5 (H5.get 7 rfl)) | (go_at_call 19; refine (All_h (HW.drewN _) 4 rfl HI3.out.len).mono ?_; rintro e v7 ⟨sv, rfl, H6⟩; obtain ⟨u0, u1, u2, u3, u4, fu⟩ := row5 (H6.get 7 rfl)) | (go_at_call 27; refine (RSame_h H6 8 rfl 5 rfl HI3.out.len).mono ?_; rintro e v8 ⟨rfl, dn, rfl⟩; have H7 := H6.drewN dn; obtain ⟨s0, s1, s2, s3, s4, fs⟩ := row5 (H7.get 7 rfl)) | (go_at_call 25; refine (Count_h H7 4 rfl).mono ?_; rintro e v9 ⟨rfl, hw⟩; obtain rfl := hw.symm))
          have H8 := H7.pick [0, 1, 2, 3, 4, 5, 6, 7] (by decide) (by simp)
          clear H7 H6 H5 HD HW o0 o1 o2 o3 o4 fo y0 y1 y2 y3 y4 fy z0 z1 z2 z3 z4 fz u0 u1 u2 u3 u4 fu s0 s1 s2 s3 s4 fs
          go_wp2_with fail
          go_roundw
          case rel => exact ⟨i + 1, l', n', m', by omega, by go_num, HI3, H8⟩
          case measure => simp [intOf]; omega
      · have hp' : ¬ (i : Int) < (np : Int) := by omega
        have a0 := blk_at (G.get 3 rfl) 0 (u := .slice la c.things.length lc) rfl
        have a1 := blk_at (G.get 3 rfl) 1 (u := .int .i64 c.mn) rfl
        obtain ⟨y0, y1, y2, y3, y4, fy⟩ := row5 (G.get 7 rfl)
        go_wp2_with fail
        refine (Count_h G 4 rfl).mono ?_
        rintro e x1 ⟨rfl, hw⟩
        obtain rfl := hw.symm
        go_wp2_with fail
        refine (clStep_h G 4 6 1 m rfl rfl rfl (by decide) h).mono ?_
        rintro e x2 ⟨rfl, H1⟩
        clear a0 a1 y0 y1 y2 y3 y4 fy
        have a0 := blk_at (H1.get 3 rfl) 0 (u := .slice la c.things.length lc) rfl
        have a1 := blk_at (H1.get 3 rfl) 1 (u := .int .i64 c.mn) rfl
        obtain ⟨y0, y1, y2, y3, y4, fy⟩ := row5 (H1.get 7 rfl)
        go_wp2_with fail
        refine (RStep12_h H1 5 2 c.mn m HI.out.pc rfl rfl h HI.out.len).mono ?_
        rintro e x3 ⟨mv', rfl, H2⟩
        unfold clV
        have f5b := clCount_eq m n
        have HI3 := Lib.hid (cinv_step c HI.out)
        clear H1 G HI y0 y1 y2 y3 y4 fy a0 a1
        obtain ⟨l', hl'⟩ : ∃ q, q = (clStep c l m).1 := ⟨_, rfl⟩
        obtain ⟨m', hm'⟩ : ∃ q, q = (clStep c l m).2 := ⟨_, rfl⟩
        obtain ⟨n', hn'⟩ : ∃ q, q = clCount m n := ⟨_, rfl⟩
        rw [← hl', ← hm', ← hn'] at H2
        rw [← hl', ← hm'] at HI3
        rw [← hm']
        rw [← hn'] at f5b
        clear hl' hm' hn'
        obtain ⟨ma, mc, rfl⟩ : ∃ ma mc, mv' = .slice ma l'.length mc := by
          obtain ⟨ma, mc, h, _⟩ := H2.get 5 rfl
          exact ⟨ma, mc, h⟩
        obtain ⟨y0, y1, y2, y3, y4, fy⟩ := row5 (H2.get 7 rfl)
        have hx3 : yb < x3.heap.size := (H2.lt 7 _ rfl yb (by simp [blkC])).1
        have fq := fy 0
        go_wp2_with fail
        have H5 : Has w _ [blkC _ w.heap.size (cfgCells c) 30, mapC _ mb av rv c, ownT _ (.slice la c.things.length lc) c.things, blkC _ ab #[.slice la c.things.length lc, .int .i64 c.mn] 56, storeC _ sb sg l' n', slC _ .u64 (.slice ma l'.length mc) l', clC _ xb mb m', blkC _ yb #[.int .i64 m'.pc, .int .i64 m'.v, .int .u64 m'.cy, .int .u64 m'.k, .bool m'.won] 61] := ((((((H2.blkSet 7 rfl 0 (.int .i64 m'.pc)).blkSet 7 rfl 1 (.int .i64 m'.v)).blkSet 7 rfl 2 (.int .u64 m'.cy)).blkSet 7 rfl 3 (.int .u64 m'.k)).blkSet 7 rfl 4 (.bool m'.won)).alloc (.cells #[.int .i64 m'.pc, .int .i64 m'.v, .int .u64 m'.cy, .int .u64 m'.k, .bool m'.won] 61))
        obtain ⟨W, HW, eW⟩ := H5.name
        rw [← eW.out]
        clear H2 H5 eW y0 y1 y2 y3 y4 fy fq hx3
        have HD := HW.drew
        obtain ⟨y0, y1, y2, y3, y4, fy⟩ := row5 (HD.get 7 rfl)
        obtain ⟨o0, o1, o2, o3, o4, fo⟩ := row5 (HW.get 7 rfl)
        have f1b : ((m'.pc : Int) == 0) = (m'.pc == 0) := by
          by_cases q : m'.pc = 0
          · rw [q]; rfl
          · have : (m'.pc == 0) = false := by simpa using q
            rw [this]; simp; omega
        generalize (m'.pc == 0) = B at f1b ⊢
        generalize decide (0 < m.pc) = D at f5b ⊢
        go_region_held3 (fun w' => w'.cell? ⟨yb, 0, none⟩ = some (.int .i64 m'.pc) ∧ w'.cell? ⟨yb, 4, none⟩ = some (.bool m'.won)) (refine ⟨?_, ?_⟩ <;> (first | (with_reducible assumption) | (simp only [cell_drewN1, cell_drew1]; with_reducible assumption))) (first | (go_at_call 14; refine (clWon_h HD 6 m' rfl).mono ?_; rintro e v4 ⟨rfl, d4, rfl⟩; have H5 := HW.drewN d4; obtain ⟨z0, z1, z2, z3, z4, fz⟩ := row5 (H5.get 7 rfl)) | (go_at_call 19; refine (All_h (HW.drewN _) 4 rfl HI3.out.len).mono ?_; rintro e v7 ⟨sv, rfl, H6⟩; obtain ⟨u0, u1, u2, u3, u4, fu⟩ := row5 (H6.get 7 rfl)) | (go_at_call 27; refine (RSame_h H6 8 rfl 5 rfl HI3.out.len).mono ?_; rintro e v8 ⟨rfl, dn, rfl⟩; have H7 := H6.drewN dn; obtain ⟨s0, s1, s2, s3, s4, fs⟩ := row5 (H7.get 7 rfl)) | (go_at_call 25; refine (Count_h H7 4 rfl).mono ?_; rintro e v9 ⟨rfl, hw⟩; obtain rfl := hw.symm))
        have H8 := H7.pick [0, 1, 2, 3, 4, 5, 6, 7] (by decide) (by simp)
        clear H7 H6 H5 HD HW o0 o1 o2 o3 o4 fo y0 y1 y2 y3 y4 fy z0 z1 z2 z3 z4 fz u0 u1 u2 u3 u4 fu s0 s1 s2 s3 s4 fs
        go_wp2_with fail
        go_roundw
        case rel => exact ⟨i + 1, l', n', m', by omega, by go_num, HI3, H8⟩
        case measure => simp [intOf]; omega
    · have hge : ¬ (i : Int) < (np : Int) + 5 := by omega
      obtain rfl : i = np + 5 := by omega
      have PC := Lib.hid (cinv_end HI.out)
      obtain ⟨y0, y1, y2, y3, y4, fy⟩ := row5 (G.get 7 rfl)
      rw [PC.out] at y0
      go_wp2_with fail
      refine (clNewNil G v cy).mono ?_
      rintro e t1 ⟨db, rfl, P1⟩
      clear y0 y1 y2 y3 y4 fy
      obtain ⟨y0, y1, y2, y3, y4, fy⟩ := row5 (P1.get 7 rfl)
      rw [PC.out] at y0
      go_wp2_with fail
      refine (clStepNil _ _).mono ?_
      rintro e t2 ⟨rfl, n2, rfl⟩
      go_wp2_with fail
      refine (clWonNil _).mono ?_
      rintro e t3 ⟨rfl, n3, rfl⟩
      go_wp2_with fail
      refine (clStepD (P1.drewN _) 8 v cy rfl _).mono ?_
      rintro e t4 ⟨rfl, n4, rfl⟩
      go_wp2_with fail
      refine (clWonD (P1.drewN _) 8 v cy rfl).mono ?_
      rintro e t5 ⟨rfl, n5, rfl⟩
      go_wp2_with fail
      go_ret
      exact ⟨rfl, (P1.drewN _).below⟩

set_option maxRecDepth 100000 in
theorem csteps_big (c : Cfg) (v cy : Int) (pa : Option Addr) (pc np : Nat) (w : World) (h8 : (8 : Int) < (np : Int)) :
    Calls Try.prog 7 #[cfgV c, .int .i64 v, .int .u64 cy, .slice pa np pc] w fun e w' => e = .returned (.bool true) ∧ Below w.heap.size w w' := by
  unfold cfgV cfgCells
  go_enter Try.func7, Try.ntmps7
  have G0 := (Has.nil w).blkNew (cfgCells c) 30
  go_wp2_with fail
  refine (awake12 _).mono ?_
  rintro e w1 ⟨rfl, q1⟩
  have G1 := G0.up q1
  obtain ⟨b0, b1, b2, b3, b4, b5, b6, b7, b8, b9, b10, b11, fb⟩ := row12 (G1.get 0 rfl)
  clear G0 q1
  go_wp2_with fail
  refine (small12_c c _).mono ?_
  rintro e w2 ⟨b, rfl, hb, q2⟩
  have G2 := G1.up q2
  clear hb
  cases b with
  | false =>
    go_wp2_with fail
    go_ret
    exact ⟨rfl, G2.below⟩
  | true =>
    go_wp2_with fail
    go_ret
    exact ⟨rfl, G2.below⟩

theorem walk_ClaimSteps (c0 c1 c2 c3 c4 mr mu dq ch bf rt sw v cy : Int) (pa : Option Addr) (pl pc np : Nat) (w : World) (hp : IsRows [.int .i64, .int .u64] w (.slice pa pl pc) np) :
    Calls Try.prog 7 #[.agg #[.int .i64 c0, .int .i64 c1, .int .i64 c2, .int .i64 c3, .int .i64 c4, .int .i64 mr, .int .i64 mu, .int .i64 dq, .int .i64 ch, .int .i64 bf, .int .i64 rt, .int .i64 sw], .int .i64 v, .int .u64 cy, .slice pa pl pc] w fun e w' => e = .returned (.bool true) ∧ Below w.heap.size w w' := by
  obtain rfl : pl = np := by
    rcases hp with ⟨h, h0⟩ | ⟨y, c, h, _⟩
    · cases h; exact h0.symm
    · cases h; rfl
  by_cases h2 : (8 : Int) < (pl : Int)
  · exact csteps_big ⟨c0, c1, c2, c3, c4, mr, mu, dq, ch, bf, rt, sw⟩ v cy pa pc pl w h2
  · exact csteps_ok ⟨c0, c1, c2, c3, c4, mr, mu, dq, ch, bf, rt, sw⟩ v cy pa pc pl w hp h2

end Go.Proofs.Ytfcookfocihjlaa
