/- The walk of HeapSteps: it answers true, and nothing that was there is changed. No condition but that the arguments can be read. -/
import Derived.Test.YtmiaghbakdapbaaReg19
import Derived.Test.YtmiaghbakdapbaaNil19
import Derived.Deep.DeepCutAuto
set_option linter.unusedVariables false
set_option linter.unusedSimpArgs false
namespace Go.Proofs.Ytmiaghbakdapbaa
open Go.ChangeShapes Go.WideShapes Go.ChangeAt Go.RowKit

def LW (l : List Int) : Prop := l.length < 1000000000000 ∧ Wm l

set_option maxRecDepth 100000 in
set_option maxHeartbeats 16000000 in
theorem hsteps_ok (c : Cfg) (s mk : Int) (fa : Option Addr) (nf fc : Nat) (fs : List Int) (pa : Option Addr) (pc np : Nat) (w : World) (m0 : 0 ≤ mk) (m1 : mk < 18446744073709551616) (hsl : Sl w [] .u8 (.slice fa nf fc) fs) (hnf : nf = fs.length) (hrow : IsRows [.int .i64, .int .u64] w (.slice pa np pc) np) (h1 : ¬ (40 : Int) < (np : Int)) (h2 : ¬ (20 : Int) < (nf : Int)) :
    Calls Try.prog 4 #[cfgV c, .int .i64 s, .int .u64 mk, .slice fa nf fc, .slice pa np pc] w fun e w' => e = .returned (.bool true) ∧ Below w.heap.size w w' := by
  have HSL := Lib.hid hsl
  have ROW := Lib.hid hrow
  have HNF := Lib.hid hnf
  have MK := Lib.hid (And.intro m0 m1)
  clear hsl hrow hnf m0 m1
  unfold cfgV cfgCells
  go_enter Try.func4, Try.ntmps4
  have G0 := (Has.nil w).blkNew (cfgCells c) 24
  go_wp2_with fail
  refine (awake19 _).mono ?_
  rintro e w1 ⟨rfl, q1⟩
  have G1 := G0.up q1
  obtain ⟨b0, b1, b2, b3, b4, b5, b6, b7, b8, b9, b10, b11, fb⟩ := row12 (G1.get 0 rfl)
  clear G0 q1
  go_wp2_with fail
  refine (small19_c c _).mono ?_
  rintro e w2 ⟨b, rfl, hb, q2⟩
  have G2 := G1.up q2
  clear G1 q2 b0 b1 b2 b3 b4 b5 b6 b7 b8 b9 b10 b11 fb
  have HB := Lib.hid hb
  clear hb
  cases b with
  | false =>
    go_wp2_with fail
    go_ret
    exact ⟨rfl, G2.below⟩
  | true =>
    have h : CfgOk c := (cfgOk_iff c).1 (HB.out rfl)
    obtain ⟨b0, b1, b2, b3, b4, b5, b6, b7, b8, b9, b10, b11, fb⟩ := row12 (G2.get 0 rfl)
    go_wp2_with fail
    refine (New_m G2 c h).mono ?_
    rintro e w3 ⟨mb, av, rv, rfl, G3⟩
    clear G2 b0 b1 b2 b3 b4 b5 b6 b7 b8 b9 b10 b11 fb
    obtain ⟨b0, b1, b2, b3, b4, b5, b6, b7, b8, b9, b10, b11, fb⟩ := row12 (G3.get 0 rfl)
    go_wp2_with fail
    refine (model19_c c _).mono ?_
    rintro e w4 ⟨rfl, q4⟩
    have G4 := G3.up q4
    clear G3 q4 b0 b1 b2 b3 b4 b5 b6 b7 b8 b9 b10 b11 fb
    obtain ⟨b0, b1, b2, b3, b4, b5, b6, b7, b8, b9, b10, b11, fb⟩ := row12 (G4.get 0 rfl)
    go_wp2_with fail
    refine (RMap11_h G4 c h).mono ?_
    rintro e w5 ⟨lv, rfl, G5⟩
    obtain ⟨la, lc, rfl⟩ := own_is (G5.get 2 rfl)
    clear G4
    have G6 := G5.blkNew #[.slice la c.things.length lc, .int .i64 c.mn] 50
    obtain ⟨ab, hab⟩ : ∃ ab, ab = w5.heap.size := ⟨_, rfl⟩
    go_wp2_with fail
    rw [← hab] at G6 ⊢
    obtain ⟨W6, HW6, eW6⟩ := G6.name
    rw [← eW6.out]
    clear G5 G6 eW6 hab
    refine (First_h HW6 1 rfl h).mono ?_
    rintro e w7 ⟨g, gn, rfl, G7⟩
    go_wp2_with fail
    refine (New_h G7 _ c.first (sl_of_ownN (G7.get 4 rfl)) (first_bd h)).mono ?_
    rintro e w8 ⟨sb, sg, rfl, G8'⟩
    have G8 := G8'.pick [0, 1, 2, 3, 5] (by decide) (by simp)
    clear G7 G8' HW6 b0 b1 b2 b3 b4 b5 b6 b7 b8 b9 b10 b11 fb
    have L0 : Hid (LW c.first) := Lib.hid ⟨first_bd h, wm_first h⟩
    go_wp2_with fail
    go_loopw [17] (fun iv wr => ∃ (i : Nat) (l : List Int) (n : Int), i ≤ nf ∧ iv = .int .i64 i ∧ Hid (LW l) ∧ Has w wr [blkC _ w.heap.size (cfgCells c) 24, mapC _ mb av rv c, ownT _ (.slice la c.things.length lc) c.things, blkC _ ab #[.slice la c.things.length lc, .int .i64 c.mn] 50, storeC _ sb sg l n]) (fun iv _ => nf - (intOf iv).toNat)
    case atStart => exact ⟨0, _, _, by omega, rfl, L0, G8⟩
    case round =>
    obtain ⟨i, l, n, hi, rfl, HL, G⟩ := hrel
    clear G8 L0
    by_cases hlt : i < nf
    · have hlt' : (i : Int) < (nf : Int) := by omega
      obtain ⟨fv, hfv⟩ : ∃ fv, fs[i]? = some fv := ⟨fs[i]'(by rw [← HNF.out]; exact hlt), by simp⟩
      have hfne : fs ≠ [] := by rintro rfl; simp at hfv
      have DC : Hid (∃ fb off, fa = some ⟨fb, off, none⟩ ∧ ∀ (wq : World) (cq : List (Chunk w.heap.size)), Has w wq cq → wq.cell? ⟨fb, off + i, none⟩ = some (.int .u8 fv)) := Lib.hid (by
        obtain ⟨fb, off, hab, -, -, hcell⟩ := sl_at HSL.out hfne
        refine ⟨fb, off, hab, fun wq cq Hq => ?_⟩
        have h0 := hcell i fv hfv
        have hbl : fb < w.heap.size := by
          rcases Nat.lt_or_ge fb w.heap.size with q | q
          · exact q
          · simp [World.cell?, Array.getElem?_eq_none q] at h0
        exact (Hq.below.cell (p := ⟨fb, off + i, none⟩) hbl).trans h0)
      obtain ⟨fb, foff, hfa, -⟩ := DC.out
      subst hfa
      have DCC : Hid (∀ (wq : World) (cq : List (Chunk w.heap.size)), Has w wq cq → wq.cell? ⟨fb, foff + i, none⟩ = some (.int .u8 fv)) := Lib.hid (by
        obtain ⟨fb', foff', hfa', hq⟩ := DC.out
        cases hfa'
        exact hq)
      clear DC hfv hfne
      have d0 := DCC.out _ _ G
      go_wp2_with fail
      go_region_held3 (fun w' => w'.cell? ⟨fb, foff + i, none⟩ = some (.int .u8 fv)) (first | (with_reducible assumption) | (simp only [cell_drewN1, cell_drew1]; with_reducible assumption)) (first | (go_at_call 24; refine (Slot_q ((G.drewN _).mAt 1 rfl h) _ _).mono ?_; rintro e x1 ⟨rfl, d1, rfl⟩) | (go_at_call 20; refine (Put_h (G.drewN _) 4 rfl _ _).mono ?_; rintro e x2 ⟨rfl, H2⟩; have e2 := DCC.out _ _ H2))
      have KK : ∃ l2 n2, Hid (LW l2) ∧ Has w x2 [blkC _ w.heap.size (cfgCells c) 24, mapC _ mb av rv c, ownT _ (.slice la c.things.length lc) c.things, blkC _ ab #[.slice la c.things.length lc, .int .i64 c.mn] 50, storeC _ sb sg l2 n2] := ⟨_, _, Lib.hid ⟨by rw [mput_length]; exact HL.out.1, wm_put HL.out.2 _ _ (by first | exact wrapU_bd _ | omega)⟩, H2⟩
      obtain ⟨l2, n2, HL2, H3⟩ := KK
      clear H2 e2 d0
      go_wp2_with fail
      go_roundw
      case rel => exact ⟨i + 1, l2, n2, by omega, by go_num, HL2, H3⟩
      case measure => simp [intOf]; omega
    · have hge : ¬ (i : Int) < (nf : Int) := by omega
      go_wp2_with fail
      refine (All_h G 4 rfl HL.out.1).mono ?_
      rintro e w9 ⟨mv, rfl, G9⟩
      go_wp2_with fail
      refine (hpNew_h G9 mb s mk).mono ?_
      rintro e w10 ⟨xb, rfl, G10⟩
      go_wp2_with fail
      refine (RNew19_h s mk _).mono ?_
      obtain ⟨y0', hy0⟩ : ∃ y, y = newR s mk := ⟨_, rfl⟩
      obtain ⟨x0', hx0⟩ : ∃ x, x = hpNew s mk := ⟨_, rfl⟩
      rw [← hx0] at G10
      rw [← hy0]
      have I0 : Hid (SI l x0' y0') := Lib.hid (by rw [hx0, hy0]; exact ⟨HL.out.1, HL.out.2, hpOk_new _ _, hpOk_newR _ _, MK.out, r19_new _ _, tk_new _ _⟩)
      clear hx0 hy0
      rintro e w11 ⟨rfl, q11⟩
      have G11 : Has w _ ([blkC _ w.heap.size (cfgCells c) 24, mapC _ mb av rv c, ownT _ (.slice la c.things.length lc) c.things, blkC _ ab #[.slice la c.things.length lc, .int .i64 c.mn] 50, storeC _ sb sg l n, slC _ .u64 mv l, hpC _ xb mb x0'] ++ [blkC _ w11.heap.size #[.int .i64 0, .int .i64 0, .int .i64 0, .int .u64 0, .int .u64 0, .int .u32 0, .int .i64 0, .int .i64 0, .int .i64 0, .int .i64 0, .int .i64 0, .int .i64 0, .int .i64 0, .int .i64 0, .int .i64 0, .int .i64 0, .int .i64 0] 59]) := (G10.up q11).blkNew #[.int .i64 0, .int .i64 0, .int .i64 0, .int .u64 0, .int .u64 0, .int .u32 0, .int .i64 0, .int .i64 0, .int .i64 0, .int .i64 0, .int .i64 0, .int .i64 0, .int .i64 0, .int .i64 0, .int .i64 0, .int .i64 0, .int .i64 0] 59
      obtain ⟨yb, hyb⟩ : ∃ yb, yb = w11.heap.size := ⟨_, rfl⟩
      clear G9 G10 G
      rw [← hyb] at G11
      go_wp2_with (refine wpl_putM G11 0 rfl rfl (.tmp 20) _ rfl (by show Value.pointer (some ⟨w11.heap.size, 0, none⟩) = _; rw [← hyb]) rfl (by simp [Value.oneCell']) ?_; intro w12 G12)
      rw [← hyb]
      clear G11 q11 hyb
--[L2
      have G13 : Has w w12 [blkC _ w.heap.size (cfgCells c) 24, mapC _ mb av rv c, ownT _ (.slice la c.things.length lc) c.things, blkC _ ab #[.slice la c.things.length lc, .int .i64 c.mn] 50, storeC _ sb sg l n, slC _ .u64 mv l, hpC _ xb mb x0', blkC _ yb #[.int .i64 (y0'.pc : Int), .int .i64 y0'.slots, .int .i64 y0'.cls, .int .u64 y0'.mark, .int .u64 y0'.h, .int .u32 y0'.link, .int .i64 y0'.v, .int .i64 y0'.tries, .int .i64 y0'.i, .int .i64 y0'.node, .int .i64 (hpCell y0'), .int .i64 y0'.e, .int .i64 y0'.ek, .int .i64 0, .int .i64 y0'.ea, .int .i64 y0'.eb, .int .i64 0] 59] := G12
      clear G12
      go_loopw [18, 21, 22, 23, 24, 25, 26, 27, 28, 29] (fun mv iv u22 u23 u24 u25 u26 u27 u28 u29 wr => ∃ (k : Nat) (l : List Int) (n : Int) (m m' : Hp), k ≤ np + 32 ∧ iv = .int .i64 k ∧ Hid (SI l m m') ∧ Has w wr [blkC _ w.heap.size (cfgCells c) 24, mapC _ mb av rv c, ownT _ (.slice la c.things.length lc) c.things, blkC _ ab #[.slice la c.things.length lc, .int .i64 c.mn] 50, storeC _ sb sg l n, slC _ .u64 mv l, hpC _ xb mb m, blkC _ yb #[.int .i64 (m'.pc : Int), .int .i64 m'.slots, .int .i64 m'.cls, .int .u64 m'.mark, .int .u64 m'.h, .int .u32 m'.link, .int .i64 m'.v, .int .i64 m'.tries, .int .i64 m'.i, .int .i64 m'.node, .int .i64 (hpCell m'), .int .i64 m'.e, .int .i64 m'.ek, .int .i64 0, .int .i64 m'.ea, .int .i64 m'.eb, .int .i64 0] 59]) (fun _ iv _ _ _ _ _ _ _ _ _ => 200 - (intOf iv).toNat)
      case atStart => exact ⟨0, _, _, _, _, by omega, rfl, I0, G13⟩
      case round =>
      obtain ⟨k, l, n, m, m', hk, rfl, I, G⟩ := hrel
      clear G13 I0 HL
      by_cases hlt2 : k < np + 32
      · have hlt2' : (k : Int) < (np : Int) + 32 := by omega
--[POKE
        go_upto_if 106 with (fail)
        go_cut [18, 22] (fun mv' _ wx => ∃ (l' : List Int) (n' : Int), Hid (SI l' m m') ∧ Has w wx [blkC _ w.heap.size (cfgCells c) 24, mapC _ mb av rv c, ownT _ (.slice la c.things.length lc) c.things, blkC _ ab #[.slice la c.things.length lc, .int .i64 c.mn] 50, storeC _ sb sg l' n', slC _ .u64 mv' l', hpC _ xb mb m, blkC _ yb #[.int .i64 (m'.pc : Int), .int .i64 m'.slots, .int .i64 m'.cls, .int .u64 m'.mark, .int .u64 m'.h, .int .u32 m'.link, .int .i64 m'.v, .int .i64 m'.tries, .int .i64 m'.i, .int .i64 m'.node, .int .i64 (hpCell m'), .int .i64 m'.e, .int .i64 m'.ek, .int .i64 0, .int .i64 m'.ea, .int .i64 m'.eb, .int .i64 0] 59])
        case first =>
          by_cases hp : k < np
          · have hp' : (k : Int) < (np : Int) := by omega
            obtain ⟨pb, poff, pcap, hpv, hpb, hrows⟩ := rows_at ROW.out (by omega) (by decide)
            simp only [Value.slice.injEq] at hpv
            obtain ⟨rfl, -, rfl⟩ := hpv
            obtain ⟨vs, hsc, hcl⟩ := hrows k hp
            obtain ⟨p0, p1, rfl, ⟨at_, rfl, w0'⟩, ⟨y, rfl, w1'⟩⟩ := scal2 hsc
            have hcl0 := Lib.hid (hcl 0 (by decide))
            have hcl1 := Lib.hid (hcl 1 (by decide))
            have hpb' := Lib.hid hpb
            have d0 : wr.cell? ⟨pb, poff + k * 2, none⟩ = some (.int .i64 at_) := (G.below.cell (p := ⟨pb, poff + k * 2, none⟩) hpb).trans hcl0.out
            have d1 : wr.cell? ⟨pb, poff + k * 2 + 1, none⟩ = some (.int .u64 y) := (G.below.cell (p := ⟨pb, poff + k * 2 + 1, none⟩) hpb).trans hcl1.out
            have YB : Hid (0 ≤ y ∧ y < 18446744073709551616) := Lib.hid (by have := Go.bounds_u64 w1'; omega)
            clear hrows hsc hcl hpb w0' w1'
            by_cases ha1 : (1 : Int) < at_
            · by_cases ha7 : at_ < 7
              · have ha2 : IntKind.i64.wrap (at_ - 2) = at_ - 2 := wrapi64_id _ (by omega) (by omega)
                go_wp2_with fail
                refine (Head_q (G.mAt 1 rfl h) _).mono ?_
                rintro e t0 ⟨rfl, dm, rfl⟩
                have GP := G.drewN dm
                go_wp2_with fail
                refine (Put_h GP 4 rfl (c.headAt (at_ - 2)) y).mono ?_
                rintro e t1 ⟨rfl, P1⟩
                have e1 : t1.cell? ⟨pb, poff + k * 2 + 1, none⟩ = some (.int .u64 y) := (P1.below.cell (p := ⟨pb, poff + k * 2 + 1, none⟩) hpb'.out).trans hcl1.out
                clear d0 d1
                go_wp2_with fail
                refine (RPut_h P1 5 rfl (c.headAt (at_ - 2)) y I.out.len).mono ?_
                rintro e t2 ⟨mv2, rfl, P2⟩
                have HI2 := Lib.hid (si_put I.out (c.headAt (at_ - 2)) y YB.out)
                go_wp2_with fail
                go_meet
                exact ⟨_, _, HI2, P2⟩
              · have GP := G
                go_wp2_with fail
                refine (Put_h GP 4 rfl at_ y).mono ?_
                rintro e t1 ⟨rfl, P1⟩
                have e1 : t1.cell? ⟨pb, poff + k * 2 + 1, none⟩ = some (.int .u64 y) := (P1.below.cell (p := ⟨pb, poff + k * 2 + 1, none⟩) hpb'.out).trans hcl1.out
                clear d0 d1
                go_wp2_with fail
                refine (RPut_h P1 5 rfl at_ y I.out.len).mono ?_
                rintro e t2 ⟨mv2, rfl, P2⟩
                have HI2 := Lib.hid (si_put I.out at_ y YB.out)
                go_wp2_with fail
                go_meet
                exact ⟨_, _, HI2, P2⟩
            · have GP := G
              go_wp2_with fail
              refine (Put_h GP 4 rfl at_ y).mono ?_
              rintro e t1 ⟨rfl, P1⟩
              have e1 : t1.cell? ⟨pb, poff + k * 2 + 1, none⟩ = some (.int .u64 y) := (P1.below.cell (p := ⟨pb, poff + k * 2 + 1, none⟩) hpb'.out).trans hcl1.out
              clear d0 d1
              go_wp2_with fail
              refine (RPut_h P1 5 rfl at_ y I.out.len).mono ?_
              rintro e t2 ⟨mv2, rfl, P2⟩
              have HI2 := Lib.hid (si_put I.out at_ y YB.out)
              go_wp2_with fail
              go_meet
              exact ⟨_, _, HI2, P2⟩
          · have hp' : ¬ (k : Int) < (np : Int) := by omega
            go_wp2_with fail
            go_meet
            exact ⟨l, n, I, G⟩
        case rest =>
--]POKE
        obtain ⟨l1, n1, I1, G1⟩ := hcut
        clear G I
        obtain ⟨ma, mc, rfl, -, -⟩ := G1.sl 5 rfl
        go_wp2_with fail
        refine (Count_h G1 4 rfl).mono ?_
        rintro e t1 ⟨rfl, hw⟩
        obtain rfl := hw.symm
        go_wp2_with fail
        refine (hpStep_h G1 4 6 1 rfl rfl (by decide) (by decide) (by decide) h m rfl I1.out.ok (wm_mld I1.out.wm)).mono ?_
        rintro e t3 ⟨rfl, G3'⟩
        have J := Lib.hid (si_step c I1.out)
        have EQ := (r19_step I1.out.r c l1).2
        obtain ⟨sl, hsl⟩ : ∃ q, q = (hpStep c l1 m).1 := ⟨_, rfl⟩
        obtain ⟨sx, hsx⟩ : ∃ q, q = (hpStep c l1 m).2 := ⟨_, rfl⟩
        obtain ⟨sy, hsy⟩ : ∃ q, q = (hpStep c l1 m').2 := ⟨_, rfl⟩
        obtain ⟨sn, hsn⟩ : ∃ q, q = hpCount m n1 := ⟨_, rfl⟩
        rw [← hsl] at EQ
        have G3 : Has w t3 [blkC _ w.heap.size (cfgCells c) 24, mapC _ mb av rv c, ownT _ (.slice la c.things.length lc) c.things, blkC _ ab #[.slice la c.things.length lc, .int .i64 c.mn] 50, storeC _ sb sg sl sn, slC _ .u64 (.slice ma l1.length mc) l1, hpC _ xb mb sx, blkC _ yb #[.int .i64 (m'.pc : Int), .int .i64 m'.slots, .int .i64 m'.cls, .int .u64 m'.mark, .int .u64 m'.h, .int .u32 m'.link, .int .i64 m'.v, .int .i64 m'.tries, .int .i64 m'.i, .int .i64 m'.node, .int .i64 (hpCell m'), .int .i64 m'.e, .int .i64 m'.ek, .int .i64 0, .int .i64 m'.ea, .int .i64 m'.eb, .int .i64 0] 59] := by rw [hsl, hsx, hsn]; exact G3'
        have HSL2 := Lib.hid EQ.symm
        have HSX2 := Lib.hid hsy
        have HSN := Lib.hid hsn
        rw [← hsl, ← hsx, ← hsy] at J
        rw [← hsx]
        clear G1 G3' hsl hsx hsn hsy EQ
        obtain ⟨y0, y1, y2, y3, y4, y5, y6, y7, y8, y9, y10, y11, y12, y13, y14, y15, y16, yf⟩ := row17 (G3.get 7 rfl)
        obtain ⟨b0, b1, b2, b3, b4, b5, b6, b7, b8, b9, b10, b11, bf⟩ := row12 (G3.get 0 rfl)
        have a0 := blk_at (G3.get 3 rfl) 0 (u := .slice la c.things.length lc) rfl
        have a1 := blk_at (G3.get 3 rfl) 1 (u := .int .i64 c.mn) rfl
        go_upto_region 29 with (fail)
        go_cut [26, 27] (fun mv2 pv wx => ∃ qb : Nat, pv = .pointer (some ⟨qb, 0, none⟩) ∧ Has w wx [blkC _ w.heap.size (cfgCells c) 24, mapC _ mb av rv c, ownT _ (.slice la c.things.length lc) c.things, blkC _ ab #[.slice la c.things.length lc, .int .i64 c.mn] 50, storeC _ sb sg sl sn, slC _ .u64 mv2 sl, hpC _ xb mb sx, blkC _ yb #[.int .i64 (m'.pc : Int), .int .i64 m'.slots, .int .i64 m'.cls, .int .u64 m'.mark, .int .u64 m'.h, .int .u32 m'.link, .int .i64 m'.v, .int .i64 m'.tries, .int .i64 m'.i, .int .i64 m'.node, .int .i64 (hpCell m'), .int .i64 m'.e, .int .i64 m'.ek, .int .i64 0, .int .i64 m'.ea, .int .i64 m'.eb, .int .i64 0] 59, blkC _ qb #[.int .i64 (sy.pc : Int), .int .i64 sy.slots, .int .i64 sy.cls, .int .u64 sy.mark, .int .u64 sy.h, .int .u32 sy.link, .int .i64 sy.v, .int .i64 sy.tries, .int .i64 sy.i, .int .i64 sy.node, .int .i64 (hpCell sy), .int .i64 sy.e, .int .i64 sy.ek, .int .i64 0, .int .i64 sy.ea, .int .i64 sy.eb, .int .i64 0] 59])
        case first =>
--[R29
          refine r29 c h mb sb sg xb ab yb lc mc av rv la ma sl l1 sn sx m' sy I1.out.len I1.out.ok' I1.out.tk I1.out.wm HSX2 HSL2 _ _ _ _ _ _ _ _ _ _ _ _ _ _ _ _ _ _ _ _ _ _ _ _ _ _ _ _ _ _ _ _ _ _ _ _ _ _ _ _ _ _ _ _ _ _ _ _ _ _ _ _ _ _ _ _ _ _ _ _ _ _ _ _ _ _ _ _ _ _ _ _ _ _ _ _ _ _ _ _ _ _ _ _ _ _ _ _ _ _ _ _ _ _ _ _ _ _ _ _ _ _ _ _ _ _ _ _ _ _ _ _ _ _ _ _ _ _ _ _ _ _ _ _ _ _ _ _ _ _ _ _ _ _ _ _ _ _ _ _ _ _ _ _ _ _ _ _ _ _ _ _ _ G3 ?_
          intro mv2 qb u146 u147 u148 u149 u150 u151 u152 u153 u154 w' K5
          go_wp2_with fail
          go_meet
          exact ⟨_, rfl, K5⟩
--]R29
        case rest =>
        obtain ⟨qb, rfl, G4⟩ := hcut
        clear G3 y0 y1 y2 y3 y4 y5 y6 y7 y8 y9 y10 y11 y12 y13 y14 y15 y16 yf b0 b1 b2 b3 b4 b5 b6 b7 b8 b9 b10 b11 bf a0 a1
        have G5 : Has w wc ([blkC _ w.heap.size (cfgCells c) 24, mapC _ mb av rv c, ownT _ (.slice la c.things.length lc) c.things, blkC _ ab #[.slice la c.things.length lc, .int .i64 c.mn] 50, storeC _ sb sg sl sn, slC _ .u64 u26 sl, hpC _ xb mb sx] ++ [blkC _ yb #[.int .i64 (m'.pc : Int), .int .i64 m'.slots, .int .i64 m'.cls, .int .u64 m'.mark, .int .u64 m'.h, .int .u32 m'.link, .int .i64 m'.v, .int .i64 m'.tries, .int .i64 m'.i, .int .i64 m'.node, .int .i64 (hpCell m'), .int .i64 m'.e, .int .i64 m'.ek, .int .i64 0, .int .i64 m'.ea, .int .i64 m'.eb, .int .i64 0] 59, blkC _ qb #[.int .i64 (sy.pc : Int), .int .i64 sy.slots, .int .i64 sy.cls, .int .u64 sy.mark, .int .u64 sy.h, .int .u32 sy.link, .int .i64 sy.v, .int .i64 sy.tries, .int .i64 sy.i, .int .i64 sy.node, .int .i64 (hpCell sy), .int .i64 sy.e, .int .i64 sy.ek, .int .i64 0, .int .i64 sy.ea, .int .i64 sy.eb, .int .i64 0] 59]) := G4
        go_wp2_with (first | (refine wpl_getM (row17 (G5.tl 1 rfl)) rfl (.tmp 27) rfl rfl ?_) | (refine wpl_putM G5 0 rfl rfl (.tmp 20) _ rfl rfl rfl (by simp [Value.oneCell']) ?_; intro W HW'))
        have HW : Has w W [blkC _ w.heap.size (cfgCells c) 24, mapC _ mb av rv c, ownT _ (.slice la c.things.length lc) c.things, blkC _ ab #[.slice la c.things.length lc, .int .i64 c.mn] 50, storeC _ sb sg sl sn, slC _ .u64 u26 sl, hpC _ xb mb sx, blkC _ yb #[.int .i64 (sy.pc : Int), .int .i64 sy.slots, .int .i64 sy.cls, .int .u64 sy.mark, .int .u64 sy.h, .int .u32 sy.link, .int .i64 sy.v, .int .i64 sy.tries, .int .i64 sy.i, .int .i64 sy.node, .int .i64 (hpCell sy), .int .i64 sy.e, .int .i64 sy.ek, .int .i64 0, .int .i64 sy.ea, .int .i64 sy.eb, .int .i64 0] 59, blkC _ qb #[.int .i64 (sy.pc : Int), .int .i64 sy.slots, .int .i64 sy.cls, .int .u64 sy.mark, .int .u64 sy.h, .int .u32 sy.link, .int .i64 sy.v, .int .i64 sy.tries, .int .i64 sy.i, .int .i64 sy.node, .int .i64 (hpCell sy), .int .i64 sy.e, .int .i64 sy.ek, .int .i64 0, .int .i64 sy.ea, .int .i64 sy.eb, .int .i64 0] 59] := HW'
        clear G4 G5 HW'
        go_wp2_with fail
        refine (Node_q HW 6 sx rfl).mono ?_
        rintro e t6 ⟨rfl, d6, rfl⟩
        have HX := HW.drewN d6
        obtain ⟨W7, HW7, e7⟩ := HX.name
        rw [← e7.out]
        clear HW HX e7
        go_upto_region 33 with (fail)
--[R33
        have HD := HW7.drew
        obtain ⟨p0, p1, p2, p3, p4, p5, p6, p7, p8, p9, p10, p11, p12, p13, p14, p15, p16, pf⟩ := row17 (HD.get 7 rfl)
        obtain ⟨o0, o1, o2, o3, o4, o5, o6, o7, o8, o9, o10, o11, o12, o13, o14, o15, o16, of⟩ := row17 (HW7.get 7 rfl)
        have k0 : ((sy.pc : Int) == 0) = (sx.pc == 0) := by
          rw [J.out.r.pc]
          by_cases q : sy.pc = 0
          · rw [q]; rfl
          · have : (sy.pc == 0) = false := by simpa using q
            rw [this]; simp; omega
        have k1 : (sx.node != sy.node) = false := by rw [J.out.r.node]; simp
        have k2 : (sx.e != sy.e) = false := by rw [J.out.r.e]; simp
        have k3 : (hpCell sx != hpCell sy) = false := by rw [J.out.r.cell]; simp
        have k4 : (sx.ek == sy.ek) = true := by rw [J.out.r.ek]; simp
        have k5 : (sx.ea == sy.ea) = true := by rw [J.out.r.ea]; simp
        have k6 : (sx.eb == sy.eb) = true := by rw [J.out.r.eb]; simp
        have k7 : (sl == sl) = true := by simp
        have k8 : (sn == IntKind.i64.wrap (n1 + 1)) = decide (0 < m'.pc) := by rw [HSN.out, hpCount_eq, I1.out.r.pc]
        have k9 : ((0 : Int) == 0) = true := rfl
        have sll : sl.length < 1000000000000 := J.out.len
        generalize (sx.pc == 0) = B at k0 ⊢
        generalize decide (0 < m'.pc) = D at k8 ⊢
        have kB : (B != B) = false := by simp
        have kD : (D != D) = false := by simp
        go_region_held3 (fun w' => w'.cell? ⟨yb, 0, none⟩ = some (.int .i64 (sy.pc : Int)) ∧ w'.cell? ⟨yb, 9, none⟩ = some (.int .i64 sy.node) ∧ w'.cell? ⟨yb, 10, none⟩ = some (.int .i64 (hpCell sy)) ∧ w'.cell? ⟨yb, 11, none⟩ = some (.int .i64 sy.e) ∧ w'.cell? ⟨yb, 12, none⟩ = some (.int .i64 sy.ek) ∧ w'.cell? ⟨yb, 13, none⟩ = some (.int .i64 0) ∧ w'.cell? ⟨yb, 14, none⟩ = some (.int .i64 sy.ea) ∧ w'.cell? ⟨yb, 15, none⟩ = some (.int .i64 sy.eb) ∧ w'.cell? ⟨yb, 16, none⟩ = some (.int .i64 0)) (refine ⟨?_, ?_, ?_, ?_, ?_, ?_, ?_, ?_, ?_⟩ <;> (first | (with_reducible assumption) | (simp only [cell_drewN1, cell_drew1]; with_reducible assumption))) (first | (go_at_call 31; refine (Cell_q HD 6 sx rfl).mono ?_; rintro e v1 ⟨rfl, hw⟩; obtain rfl := hw.symm) | (go_at_call 32; refine (Event_c (HW7.drewN _) 6 sx rfl).mono ?_; rintro e v3 ⟨rfl, q3⟩; have H3 := (HW7.drewN _).up q3; obtain ⟨jx0, jx1, jx2, jx3, jx4, jx5, jx6, jx7, jx8, jx9, jx10, jx11, jx12, jx13, jx14, jx15, jx16, jxf⟩ := row17 (H3.get 7 rfl)) | (go_at_call 25; refine (All_h H3 4 rfl sll).mono ?_; rintro e v5 ⟨sv, rfl, H5⟩; obtain ⟨mx0, mx1, mx2, mx3, mx4, mx5, mx6, mx7, mx8, mx9, mx10, mx11, mx12, mx13, mx14, mx15, mx16, mxf⟩ := row17 (H5.get 7 rfl)) | (go_at_call 33; refine (RSame_h H5 9 rfl 5 rfl sll).mono ?_; rintro e v6 ⟨rfl, dn, rfl⟩; have H6 := H5.drewN dn; obtain ⟨rx0, rx1, rx2, rx3, rx4, rx5, rx6, rx7, rx8, rx9, rx10, rx11, rx12, rx13, rx14, rx15, rx16, rxf⟩ := row17 (H6.get 7 rfl)) | (go_at_call 28; refine (Count_h H6 4 rfl).mono ?_; rintro e v4 ⟨rfl, hw⟩; obtain rfl := hw.symm))
        have H7 := H6.pick [0, 1, 2, 3, 4, 5, 6, 7] (by decide) (by simp)
        clear H6 H5 H3 HD HW7 p0 p1 p2 p3 p4 p5 p6 p7 p8 p9 p10 p11 p12 p13 p14 p15 p16 pf o0 o1 o2 o3 o4 o5 o6 o7 o8 o9 o10 o11 o12 o13 o14 o15 o16 of jx0 jx1 jx2 jx3 jx4 jx5 jx6 jx7 jx8 jx9 jx10 jx11 jx12 jx13 jx14 jx15 jx16 jxf mx0 mx1 mx2 mx3 mx4 mx5 mx6 mx7 mx8 mx9 mx10 mx11 mx12 mx13 mx14 mx15 mx16 mxf rx0 rx1 rx2 rx3 rx4 rx5 rx6 rx7 rx8 rx9 rx10 rx11 rx12 rx13 rx14 rx15 rx16 rxf k0 k1 k2 k3 k4 k5 k6 k7 k8 k9 kB kD
        go_wp2_with fail
        go_roundw
        case rel => exact ⟨k + 1, sl, sn, sx, sy, by omega, by go_num, J, H7⟩
        case measure => simp [intOf]; omega
--]R33
      · have hge2 : ¬ (k : Int) < (np : Int) + 32 := by omega
        go_wp2_with fail
        refine (NodeNil_q _).mono ?_
        rintro e t1 ⟨rfl, hw⟩
        obtain rfl := hw.symm
        go_wp2_with fail
        refine (hpStepNil _ _).mono ?_
        rintro e t2 ⟨rfl, hw⟩
        obtain rfl := hw.symm
        go_wp2_with fail
        refine (CellNil_q _).mono ?_
        rintro e t3 ⟨rfl, hw⟩
        obtain rfl := hw.symm
        go_wp2_with fail
        refine (hpNewNil G s mk).mono ?_
        rintro e t4 ⟨db, rfl, G4⟩
        go_wp2_with fail
        refine (hpStepD G4 8 s (sOf s) mk rfl _).mono ?_
        rintro e t5 ⟨rfl, d5, rfl⟩
        go_wp2_with fail
        go_ret
        exact ⟨rfl, (G4.drewN _).below⟩
--]L2

set_option maxRecDepth 100000 in
theorem hsteps_big (c : Cfg) (s mk : Int) (fa : Option Addr) (nf fc : Nat) (pa : Option Addr) (pc np : Nat) (w : World) (hh : (40 : Int) < (np : Int) ∨ (20 : Int) < (nf : Int)) :
    Calls Try.prog 4 #[cfgV c, .int .i64 s, .int .u64 mk, .slice fa nf fc, .slice pa np pc] w fun e w' => e = .returned (.bool true) ∧ Below w.heap.size w w' := by
  unfold cfgV cfgCells
  go_enter Try.func4, Try.ntmps4
  have G0 := (Has.nil w).blkNew (cfgCells c) 24
  go_wp2_with fail
  refine (awake19 _).mono ?_
  rintro e w1 ⟨rfl, q1⟩
  have G1 := G0.up q1
  obtain ⟨b0, b1, b2, b3, b4, b5, b6, b7, b8, b9, b10, b11, fb⟩ := row12 (G1.get 0 rfl)
  clear G0 q1
  go_wp2_with fail
  refine (small19_c c _).mono ?_
  rintro e w2 ⟨b, rfl, hb, q2⟩
  have G2 := G1.up q2
  clear hb
  cases b with
  | false =>
    go_wp2_with fail
    go_ret
    exact ⟨rfl, G2.below⟩
  | true =>
    by_cases h1 : (40 : Int) < (np : Int)
    · go_wp2_with fail
      go_ret
      exact ⟨rfl, G2.below⟩
    · have h2 : (20 : Int) < (nf : Int) := hh.resolve_left h1
      go_wp2_with fail
      go_ret
      exact ⟨rfl, G2.below⟩

end Go.Proofs.Ytmiaghbakdapbaa
