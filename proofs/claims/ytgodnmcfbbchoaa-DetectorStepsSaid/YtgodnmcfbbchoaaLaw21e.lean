/- The walk of DetectorSteps. No condition. -/
import Derived.Test.YtgodnmcfbbchoaaLaw21c
import Derived.Test.YtgodnmcfbbchoaaRef21t
import Derived.Test.YtgodnmcfbbchoaaNil21
import Derived.Test.YtgodnmcfbbchoaaDs21p
import Derived.Deep.DeepCutAuto
set_option linter.unusedVariables false
set_option linter.unusedSimpArgs false
namespace Go.Proofs.Ytgodnmcfbbchoaa
open Go.ChangeShapes Go.WideShapes Go.ChangeAt Go.RowKit

theorem alloc_cell21 {w : World} {b o : Nat} {u : Value} (ob : Obj) (hb : b < w.heap.size) (h : w.cell? ⟨b, o, none⟩ = some u) : (w.alloc ob).cell? ⟨b, o, none⟩ = some u := by
  rw [((Below.refl w.heap.size w).alloc (Nat.le_refl _) ob).cell (p := ⟨b, o, none⟩) hb]; exact h
theorem set_cellb21 {w : World} {b o a p : Nat} {u : Value} (v : Value) (h : w.cell? ⟨b, o, none⟩ = some u) (hne : b ≠ a) : (w.setCell ⟨a, p, none⟩ v).cell? ⟨b, o, none⟩ = some u := by
  rw [World.cell?_of_block (w := w) (a := ⟨b, o, none⟩) (Below.heap_setCell _ _ _ _ hne)]; exact h
theorem dtCount_eq (x : Dt) (d n : Int) : (dtCount x d n == n) = dtIdle x d := by
  unfold dtCount
  cases dtIdle x d with
  | true => simp
  | false =>
    show (wrap64 (n + 1) == n) = false
    rw [beq_eq_false_iff_ne]
    unfold wrap64
    omega
theorem size_drewN21 (w : World) (n : Nat) : (w.drewN n).heap.size = w.heap.size := rfl

set_option maxRecDepth 100000 in
set_option maxHeartbeats 16000000 in
theorem dsteps_ok (c : Cfg) (da : Option Addr) (nd dc : Nat) (ds : List Int) (pa : Option Addr) (pc np : Nat) (w : World) (hsl : Sl w [] .u8 (.slice da nd dc) ds) (hnd : nd = ds.length) (hws : ∀ x ∈ ds, 0 ≤ x ∧ x < 256) (hrow : IsRows [.int .i64, .int .u64] w (.slice pa np pc) np) (h1 : ¬ (100 : Int) < (np : Int)) (h2 : 0 < nd) (h3 : ¬ (60 : Int) < (nd : Int)) :
    Calls Try.prog 7 #[cfgV c, .slice da nd dc, .slice pa np pc] w fun e w' => e = .returned (.bool true) ∧ Below w.heap.size w w' := by
  have HSL := Lib.hid hsl
  have HDS := Lib.hid hws
  have ROW := Lib.hid hrow
  have HND := Lib.hid hnd
  have h1b : decide ((100 : Int) < (np : Int)) = false := by simpa using h1
  have h2b : ((nd : Int) == 0) = false := by simp; omega
  have h2c : (nd == 0) = false := by simp; omega
  have h3b : decide ((60 : Int) < (nd : Int)) = false := by simpa using h3
  clear hsl hws hrow hnd
  unfold cfgV cfgCells
  go_enter Try.func7, Try.ntmps7
  have G0 := (Has.nil w).blkNew (cfgCells c) 24
  go_wp2_with fail
  refine (awake21 _).mono ?_
  rintro e w1 ⟨rfl, q1⟩
  have G1 := G0.up q1
  obtain ⟨b0, b1, b2, b3, b4, b5, b6, b7, b8, b9, b10, b11, fb⟩ := row12 (G1.get 0 rfl)
  clear G0 q1
  go_wp2_with fail
  refine (small21_c c _).mono ?_
  rintro e w2 ⟨b, rfl, hb, q2⟩
  have G2 := G1.up q2
  clear G1 q2 b0 b1 b2 b3 b4 b5 b6 b7 b8 b9 b10 b11 fb
  have HB := Lib.hid hb
  clear hb
  cases b with
  | false =>
    go_wp2_with fail
    go_ret
    exact ⟨rfl, G2.below⟩
  | true =>
    have h : CfgOk c := (cfgOk_iff c).1 (HB.out rfl)
    obtain ⟨b0, b1, b2, b3, b4, b5, b6, b7, b8, b9, b10, b11, fb⟩ := row12 (G2.get 0 rfl)
    go_wp2_with fail
    refine (New_m G2 c h).mono ?_
    rintro e w3 ⟨mb, av, rv, rfl, G3⟩
    clear G2 b0 b1 b2 b3 b4 b5 b6 b7 b8 b9 b10 b11 fb
    obtain ⟨b0, b1, b2, b3, b4, b5, b6, b7, b8, b9, b10, b11, fb⟩ := row12 (G3.get 0 rfl)
    go_wp2_with fail
    refine (model21_c c _).mono ?_
    rintro e w4 ⟨rfl, q4⟩
    have G4 := G3.up q4
    clear G3 q4 b0 b1 b2 b3 b4 b5 b6 b7 b8 b9 b10 b11 fb
    obtain ⟨b0, b1, b2, b3, b4, b5, b6, b7, b8, b9, b10, b11, fb⟩ := row12 (G4.get 0 rfl)
    go_wp2_with fail
    refine (RMap11_h G4 c h).mono ?_
    rintro e w5 ⟨lv, rfl, G5⟩
    obtain ⟨la, lc, rfl⟩ := own_is (G5.get 2 rfl)
    clear G4
    have G6 := G5.blkNew #[.slice la c.things.length lc, .int .i64 c.mn] 59
    obtain ⟨ab, hab⟩ : ∃ ab, ab = w5.heap.size := ⟨_, rfl⟩
    go_wp2_with fail
    rw [← hab] at G6 ⊢
    obtain ⟨W6, HW6, eW6⟩ := G6.name
    rw [← eW6.out]
    clear G5 G6 eW6 hab
    refine (First_h HW6 1 rfl h).mono ?_
    rintro e w7 ⟨g, gn, rfl, G7⟩
    have hfr := first_room h
    go_wp2_with fail
    refine (New_h G7 _ c.first (sl_of_ownN (G7.get 4 rfl)) (by omega)).mono ?_
    rintro e w8 ⟨sb, sg, rfl, G8'⟩
    have G8 := G8'.pick [0, 1, 2, 3, 5] (by decide) (by simp)
    clear G7 G8' HW6
    go_wp2_with fail
    refine (All_h G8 4 rfl (by have := hfr.2; omega)).mono ?_
    rintro e w9 ⟨mv, rfl, G9⟩
    go_wp2_with fail
    refine (dtNew_h G9 mb).mono ?_
    rintro e w10 ⟨xb, rfl, G10⟩
    have G11 := G10.blkNew #[.int .i64 0, .int .u64 0, .int .i64 0, .int .i64 0, .int .i64 0, .int .i64 0, .int .i64 0, .int .i64 0] 64
    clear G8 G9
    obtain ⟨yb, hyb⟩ : ∃ yb, yb = w10.heap.size := ⟨_, rfl⟩
    go_wp2_with fail
    rw [← hyb] at G11 ⊢
    clear hyb G10 b0 b1 b2 b3 b4 b5 b6 b7 b8 b9 b10 b11 fb
    have I0 : Hid (SInv c 0 c.first d0) := Lib.hid ⟨by have := hfr.2; omega, by rw [first_lo h 1 (by decide) (by decide)]; exact Int.le_refl _, dtOk0 h, Int.le_refl _⟩
    go_loopw [13, 16, 17, 18, 19, 20, 21, 22] (fun mv iv u17 u18 u19 u20 u21 u22 wr => ∃ (k : Nat) (l : List Int) (n : Int) (x : Dt), k ≤ np + 20 ∧ iv = .int .i64 k ∧ Hid (SInv c k l x) ∧ Has w wr [blkC _ w.heap.size (cfgCells c) 24, mapC _ mb av rv c, ownT _ (.slice la c.things.length lc) c.things, blkC _ ab #[.slice la c.things.length lc, .int .i64 c.mn] 59, storeC _ sb sg l n, slC _ .u64 mv l, dtC _ xb mb x, blkC _ yb #[.int .i64 x.doing, .int .u64 x.cy, .int .i64 x.turn, .int .i64 x.ek, .int .i64 0, .int .i64 x.ea, .int .i64 x.eb, .int .i64 0] 64]) (fun _ iv _ _ _ _ _ _ _ => 200 - (intOf iv).toNat)
    case atStart => exact ⟨0, _, _, d0, by omega, rfl, I0, G11⟩
    case round =>
    obtain ⟨k, l, n, x, hk, rfl, I, G⟩ := hrel
    clear G11 I0
    have cy0 := I.out.ok.cy0
    have cy1 : x.cy < 121 := by have := I.out.cy; omega
    by_cases hlt : k < np + 20
    · have hlt' : (k : Int) < (np : Int) + 20 := by omega
      have hkd : k % nd < ds.length := by rw [← HND.out]; exact Nat.mod_lt _ h2
      have rk : (k : Int).tmod (nd : Int) = ((k % nd : Nat) : Int) := by rw [Int.tmod_eq_emod_of_nonneg (by omega)]; omega
      have hkd' : ((k % nd : Nat) : Int) < (nd : Int) := by have := Nat.mod_lt k h2; omega
      obtain ⟨dv, hdv⟩ : ∃ dv, ds[k % nd]? = some dv := ⟨ds[k % nd], by simp [hkd]⟩
      have dvb := HDS.out dv (List.mem_of_getElem? hdv)
      have hdne : ds ≠ [] := by rintro rfl; simp at hkd
      have DC : Hid (∃ db off, da = some ⟨db, off, none⟩ ∧ ∀ (wq : World) (cq : List (Chunk w.heap.size)), Has w wq cq → wq.cell? ⟨db, off + k % nd, none⟩ = some (.int .u8 dv)) := Lib.hid (by
        obtain ⟨db, off, hab, -, -, hcell⟩ := sl_at HSL.out hdne
        refine ⟨db, off, hab, fun wq cq Hq => ?_⟩
        have h0 := hcell (k % nd) dv hdv
        have hbl : db < w.heap.size := by
          rcases Nat.lt_or_ge db w.heap.size with q | q
          · exact q
          · simp [World.cell?, Array.getElem?_eq_none q] at h0
        exact (Hq.below.cell (p := ⟨db, off + k % nd, none⟩) hbl).trans h0)
      obtain ⟨db, doff, hda, -⟩ := DC.out
      subst hda
      have DCC : Hid (∀ (wq : World) (cq : List (Chunk w.heap.size)), Has w wq cq → wq.cell? ⟨db, doff + k % nd, none⟩ = some (.int .u8 dv)) := Lib.hid (by
        obtain ⟨db', doff', hda', hq⟩ := DC.out
        cases hda'
        exact hq)
      clear DC hdne hdv hkd
      generalize k % nd = kd at rk hkd' DCC
      go_upto_if 73 with (fail)
      go_cut [13, 17] (fun mv' _ wx => ∃ (l' : List Int) (n' : Int), Hid (SInv c k l' x) ∧ Has w wx [blkC _ w.heap.size (cfgCells c) 24, mapC _ mb av rv c, ownT _ (.slice la c.things.length lc) c.things, blkC _ ab #[.slice la c.things.length lc, .int .i64 c.mn] 59, storeC _ sb sg l' n', slC _ .u64 mv' l', dtC _ xb mb x, blkC _ yb #[.int .i64 x.doing, .int .u64 x.cy, .int .i64 x.turn, .int .i64 x.ek, .int .i64 0, .int .i64 x.ea, .int .i64 x.eb, .int .i64 0] 64])
      case first =>
        by_cases hp : k < np
        · have hp' : (k : Int) < (np : Int) := by omega
          obtain ⟨pb, poff, pcap, hpv, hpb, hrows⟩ := rows_at ROW.out (by omega) (by decide)
          simp only [Value.slice.injEq] at hpv
          obtain ⟨rfl, -, rfl⟩ := hpv
          obtain ⟨vs, hsc, hcl⟩ := hrows k hp
          obtain ⟨p0, p1, rfl, ⟨at_, rfl, w0'⟩, ⟨y, rfl, w1'⟩⟩ := scal2 hsc
          have hcl0 := Lib.hid (hcl 0 (by decide))
          have hcl1 := Lib.hid (hcl 1 (by decide))
          have hpb' := Lib.hid hpb
          have d0 : wr.cell? ⟨pb, poff + k * 2, none⟩ = some (.int .i64 at_) := (G.below.cell (p := ⟨pb, poff + k * 2, none⟩) hpb).trans hcl0.out
          have d1 : wr.cell? ⟨pb, poff + k * 2 + 1, none⟩ = some (.int .u64 y) := (G.below.cell (p := ⟨pb, poff + k * 2 + 1, none⟩) hpb).trans hcl1.out
          have AB := Lib.hid (Go.bounds_i64 w0')
          have YB := Lib.hid (Go.bounds_u64 w1')
          clear hrows hsc hcl hpb w0' w1'
          by_cases ha5 : (5 : Int) < at_
          · by_cases ha10 : at_ < 10
            · have ha8 : IntKind.i64.wrap (at_ - 6) = at_ - 6 := wrapi64_id _ (by omega) (by omega)
              go_wp2_with fail
              refine (Ack_q (G.mAt 1 rfl h) _).mono ?_
              rintro e t0 ⟨rfl, dm, rfl⟩
              have GP := G.drewN dm
              go_wp2_with fail
              refine (Put_h GP 4 rfl (c.ackAt (at_ - 6)) y).mono ?_
              rintro e t1 ⟨rfl, P1⟩
              have e1 : t1.cell? ⟨pb, poff + k * 2 + 1, none⟩ = some (.int .u64 y) := (P1.below.cell (p := ⟨pb, poff + k * 2 + 1, none⟩) hpb'.out).trans hcl1.out
              clear d0 d1
              go_wp2_with fail
              refine (RPut_h P1 5 rfl (c.ackAt (at_ - 6)) y I.out.len).mono ?_
              rintro e t2 ⟨mv2, rfl, P2⟩
              have HI2 := Lib.hid (sinv_put I.out (c.ackAt (at_ - 6)) y YB.out.1)
              go_wp2_with fail
              go_meet
              exact ⟨_, _, HI2, P2⟩
            · have GP := G
              go_wp2_with fail
              refine (Put_h GP 4 rfl at_ y).mono ?_
              rintro e t1 ⟨rfl, P1⟩
              have e1 : t1.cell? ⟨pb, poff + k * 2 + 1, none⟩ = some (.int .u64 y) := (P1.below.cell (p := ⟨pb, poff + k * 2 + 1, none⟩) hpb'.out).trans hcl1.out
              clear d0 d1
              go_wp2_with fail
              refine (RPut_h P1 5 rfl at_ y I.out.len).mono ?_
              rintro e t2 ⟨mv2, rfl, P2⟩
              have HI2 := Lib.hid (sinv_put I.out at_ y YB.out.1)
              go_wp2_with fail
              go_meet
              exact ⟨_, _, HI2, P2⟩
          · have GP := G
            go_wp2_with fail
            refine (Put_h GP 4 rfl at_ y).mono ?_
            rintro e t1 ⟨rfl, P1⟩
            have e1 : t1.cell? ⟨pb, poff + k * 2 + 1, none⟩ = some (.int .u64 y) := (P1.below.cell (p := ⟨pb, poff + k * 2 + 1, none⟩) hpb'.out).trans hcl1.out
            clear d0 d1
            go_wp2_with fail
            refine (RPut_h P1 5 rfl at_ y I.out.len).mono ?_
            rintro e t2 ⟨mv2, rfl, P2⟩
            have HI2 := Lib.hid (sinv_put I.out at_ y YB.out.1)
            go_wp2_with fail
            go_meet
            exact ⟨_, _, HI2, P2⟩
        · have hp' : ¬ (k : Int) < (np : Int) := by omega
          go_wp2_with fail
          go_meet
          exact ⟨l, n, I, G⟩
      case rest =>
      obtain ⟨l1, n1, I1, G1⟩ := hcut
      clear G I
      obtain ⟨ma, mc, rfl, -, -⟩ := G1.sl 5 rfl
      go_wp2_with fail
      refine (Count_h G1 4 rfl).mono ?_
      rintro e t1 ⟨rfl, hw⟩
      obtain rfl := hw.symm
      have dcell := DCC.out _ _ G1
      obtain ⟨y0, y1, y2, y3, y4, y5, y6, y7, fy⟩ := row8 (G1.get 7 rfl)
      have hm2 : dv % 2 = 0 ∨ dv % 2 = 1 := by omega
      go_upto_region 24 with (fail)
      go_cut [20] (fun bv wx => bv = .bool (dtIdle x dv) ∧ Has w wx [blkC _ w.heap.size (cfgCells c) 24, mapC _ mb av rv c, ownT _ (.slice la c.things.length lc) c.things, blkC _ ab #[.slice la c.things.length lc, .int .i64 c.mn] 59, storeC _ sb sg l1 n1, slC _ .u64 (.slice ma l1.length mc) l1, dtC _ xb mb x, blkC _ yb #[.int .i64 x.doing, .int .u64 x.cy, .int .i64 x.turn, .int .i64 x.ek, .int .i64 0, .int .i64 x.ea, .int .i64 x.eb, .int .i64 0] 64])
      case first =>
        by_cases hx0 : x.doing = 0
        · have hx0b : ((x.doing : Int) == 0) = true := by rw [hx0]; rfl
          have hx0c : (x.doing == 0) = true := by rw [hx0]; rfl
          go_wp2_with fail
          go_meet
          exact ⟨by simp [dtIdle, hx0c], G1⟩
        · have hx0b : ((x.doing : Int) == 0) = false := by simp; omega
          have hx0c : (x.doing == 0) = false := by simp; omega
          go_wp2_with fail
          go_meet
          exact ⟨by simp [dtIdle, hx0c], G1⟩
      case rest =>
      obtain ⟨rfl, G2⟩ := hcut
      clear G1 dcell y0 y1 y2 y3 y4 y5 y6 y7 fy hm2
      generalize hID : dtIdle x dv = idb
      have HID := Lib.hid hID
      clear hID
      go_wp2_with fail
      refine (dtStep_h G2 4 6 1 rfl rfl (by decide) h x dv rfl I1.out.ok (by omega) dvb.1).mono ?_
      rintro e t3 ⟨rfl, G3'⟩
      have J := Lib.hid (sinv_step h I1.out dv)
      obtain ⟨sl, hsl⟩ : ∃ q, q = (dtStep c l1 x dv).1 := ⟨_, rfl⟩
      obtain ⟨sx, hsx⟩ : ∃ q, q = (dtStep c l1 x dv).2 := ⟨_, rfl⟩
      obtain ⟨sn, hsn⟩ : ∃ q, q = dtCount x dv n1 := ⟨_, rfl⟩
      have G3 : Has w t3 [blkC _ w.heap.size (cfgCells c) 24, mapC _ mb av rv c, ownT _ (.slice la c.things.length lc) c.things, blkC _ ab #[.slice la c.things.length lc, .int .i64 c.mn] 59, storeC _ sb sg sl sn, slC _ .u64 (.slice ma l1.length mc) l1, dtC _ xb mb sx, blkC _ yb #[.int .i64 x.doing, .int .u64 x.cy, .int .i64 x.turn, .int .i64 x.ek, .int .i64 0, .int .i64 x.ea, .int .i64 x.eb, .int .i64 0] 64] := by rw [hsl, hsx, hsn]; exact G3'
      have HSL2 := Lib.hid hsl
      have HSX := Lib.hid hsx
      have HSN := Lib.hid hsn
      rw [← hsl, ← hsx] at J
      clear G2 G3' hsl hsx hsn
      obtain ⟨y0, y1, y2, y3, y4, y5, y6, y7, fy⟩ := row8 (G3.get 7 rfl)
      obtain ⟨b0, b1, b2, b3, b4, b5, b6, b7, b8, b9, b10, b11, fb⟩ := row12 (G3.get 0 rfl)
      have a0 := blk_at (G3.get 3 rfl) 0 (u := .slice la c.things.length lc) rfl
      have a1 := blk_at (G3.get 3 rfl) 1 (u := .int .i64 c.mn) rfl
      go_upto_region 26 with (fail)
      go_cut [21, 22] (fun mv2 pv wx => ∃ qb : Nat, pv = .pointer (some ⟨qb, 0, none⟩) ∧ Has w wx [blkC _ w.heap.size (cfgCells c) 24, mapC _ mb av rv c, ownT _ (.slice la c.things.length lc) c.things, blkC _ ab #[.slice la c.things.length lc, .int .i64 c.mn] 59, storeC _ sb sg sl sn, slC _ .u64 mv2 sl, dtC _ xb mb sx, blkC _ yb #[.int .i64 x.doing, .int .u64 x.cy, .int .i64 x.turn, .int .i64 x.ek, .int .i64 0, .int .i64 x.ea, .int .i64 x.eb, .int .i64 0] 64, blkC _ qb #[.int .i64 sx.doing, .int .u64 sx.cy, .int .i64 sx.turn, .int .i64 sx.ek, .int .i64 0, .int .i64 sx.ea, .int .i64 sx.eb, .int .i64 0] 64])
      case first =>
        have Z0 : w.heap.size < t3.heap.size := (G3.lt 0 _ rfl _ (by simp [blkC])).1
        have Z1 : ab < t3.heap.size := (G3.lt 3 _ rfl _ (by simp [blkC])).1
        have Z2 : yb < t3.heap.size := (G3.lt 7 _ rfl _ (by simp [blkC])).1
        go_region_held3 (fun w' => w'.cell? ⟨w.heap.size, 0, none⟩ = some (.int .i64 c.c0) ∧ w'.cell? ⟨w.heap.size, 1, none⟩ = some (.int .i64 c.c1) ∧ w'.cell? ⟨w.heap.size, 2, none⟩ = some (.int .i64 c.c2) ∧ w'.cell? ⟨w.heap.size, 3, none⟩ = some (.int .i64 c.c3) ∧ w'.cell? ⟨w.heap.size, 4, none⟩ = some (.int .i64 c.c4) ∧ w'.cell? ⟨w.heap.size, 5, none⟩ = some (.int .i64 c.mr) ∧ w'.cell? ⟨w.heap.size, 6, none⟩ = some (.int .i64 c.mu) ∧ w'.cell? ⟨w.heap.size, 7, none⟩ = some (.int .i64 c.dq) ∧ w'.cell? ⟨w.heap.size, 8, none⟩ = some (.int .i64 c.ch) ∧ w'.cell? ⟨w.heap.size, 9, none⟩ = some (.int .i64 c.bf) ∧ w'.cell? ⟨w.heap.size, 10, none⟩ = some (.int .i64 c.rt) ∧ w'.cell? ⟨w.heap.size, 11, none⟩ = some (.int .i64 c.sw) ∧ w'.cell? ⟨ab, 0, none⟩ = some (.slice la c.things.length lc) ∧ w'.cell? ⟨ab, 1, none⟩ = some (.int .i64 c.mn) ∧ w'.cell? ⟨yb, 0, none⟩ = some (.int .i64 x.doing) ∧ w'.cell? ⟨yb, 1, none⟩ = some (.int .u64 x.cy) ∧ w'.cell? ⟨yb, 2, none⟩ = some (.int .i64 x.turn) ∧ w'.cell? ⟨yb, 3, none⟩ = some (.int .i64 x.ek) ∧ w'.cell? ⟨yb, 4, none⟩ = some (.int .i64 0) ∧ w'.cell? ⟨yb, 5, none⟩ = some (.int .i64 x.ea) ∧ w'.cell? ⟨yb, 6, none⟩ = some (.int .i64 x.eb) ∧ w'.cell? ⟨yb, 7, none⟩ = some (.int .i64 0)) (refine ⟨?_, ?_, ?_, ?_, ?_, ?_, ?_, ?_, ?_, ?_, ?_, ?_, ?_, ?_, ?_, ?_, ?_, ?_, ?_, ?_, ?_, ?_⟩ <;> (first | (with_reducible assumption) | (simp only [cell_drewN1, cell_drew1]; with_reducible assumption) | ((try simp only [cell_drewN1, cell_drew1]); (with_reducible refine alloc_cell21 _ ?_ ?_) <;> (first | (with_reducible assumption) | (simp only [cell_drewN1, cell_drew1, size_drewN21]; with_reducible assumption))) | ((try simp only [cell_drewN1, cell_drew1]); (repeat (with_reducible refine set_cellb21 _ ?_ (by omega))); (first | (with_reducible assumption) | (simp only [cell_drewN1, cell_drew1]; with_reducible assumption))))) (first | (go_at_call 31; (first | (have S1 := rdStep_h K1 5 2 c.mn dv rfl rfl h I1.out.len x I1.out.ok (by omega) dvb.1 I1.out.w1; unfold rdV at S1; with_reducible refine S1.mono ?_; clear S1) | (have S1 := rdStep_h (K1.blkNew #[.int .i64 0, .int .u64 0, .int .i64 0, .int .i64 0, .int .i64 0, .int .i64 0, .int .i64 0, .int .i64 0] 64) 5 2 c.mn dv rfl rfl h I1.out.len x I1.out.ok (by omega) dvb.1 I1.out.w1; unfold rdV at S1; with_reducible refine S1.mono ?_; clear S1)); rintro e t5 ⟨mv', rfl, K2⟩; (try unfold rdV); (try obtain ⟨v0, v1, v2, v3, v4, v5, v6, v7, fv⟩ := row8 (K2.get 8 rfl)); have Z0 : w.heap.size < t5.heap.size := (K2.lt 0 _ rfl _ (by simp [blkC])).1; have Z1 : ab < t5.heap.size := (K2.lt 3 _ rfl _ (by simp [blkC])).1; have Z2 : yb < t5.heap.size := (K2.lt 7 _ rfl _ (by simp [blkC])).1; obtain ⟨u0, u1, u2, u3, u4, u5, u6, u7, fu⟩ := row8 (K2.get 7 rfl); obtain ⟨d0, d1, d2, d3, d4, d5, d6, d7, d8, d9, d10, d11, fd⟩ := row12 (K2.get 0 rfl); have a2 := blk_at (K2.get 3 rfl) 0 (u := .slice la c.things.length lc) rfl; have a3 := blk_at (K2.get 3 rfl) 1 (u := .int .i64 c.mn) rfl) | (go_at_call 31; trace "NOFIT"; trace_state; fail) | (go_at_call 27; refine (model21_c c _).mono ?_; rintro e t4 ⟨rfl, q4⟩; (first | have K1 := (G3.drewN _).up q4 | have K1 := ((G3.blkNew #[.int .i64 0, .int .u64 0, .int .i64 0, .int .i64 0, .int .i64 0, .int .i64 0, .int .i64 0, .int .i64 0] 64).drewN _).up q4); have Z0 : w.heap.size < t4.heap.size := (K1.lt 0 _ rfl _ (by simp [blkC])).1; have Z1 : ab < t4.heap.size := (K1.lt 3 _ rfl _ (by simp [blkC])).1; have Z2 : yb < t4.heap.size := (K1.lt 7 _ rfl _ (by simp [blkC])).1; obtain ⟨y0, y1, y2, y3, y4, y5, y6, y7, fy⟩ := row8 (K1.get 7 rfl); obtain ⟨b0, b1, b2, b3, b4, b5, b6, b7, b8, b9, b10, b11, fb⟩ := row12 (K1.get 0 rfl); have a0 := blk_at (K1.get 3 rfl) 0 (u := .slice la c.things.length lc) rfl; have a1 := blk_at (K1.get 3 rfl) 1 (u := .int .i64 c.mn) rfl))
        all_goals
          go_wp2_with fail
          go_meet
          rw [← HSL2.out] at K2
          rw [← HSX.out]
          first | (have K3 : Has w t5 [blkC _ w.heap.size (cfgCells c) 24, mapC _ mb av rv c, ownT _ (.slice la c.things.length lc) c.things, blkC _ ab #[.slice la c.things.length lc, .int .i64 c.mn] 59, storeC _ sb sg sl sn, slC _ .u64 mv' sl, dtC _ xb mb sx, blkC _ yb #[.int .i64 x.doing, .int .u64 x.cy, .int .i64 x.turn, .int .i64 x.ek, .int .i64 0, .int .i64 x.ea, .int .i64 x.eb, .int .i64 0] 64] := K2; have K4 := K3.blkNew #[.int .i64 sx.doing, .int .u64 sx.cy, .int .i64 sx.turn, .int .i64 sx.ek, .int .i64 0, .int .i64 sx.ea, .int .i64 sx.eb, .int .i64 0] 64; have K5 : Has w _ [blkC _ w.heap.size (cfgCells c) 24, mapC _ mb av rv c, ownT _ (.slice la c.things.length lc) c.things, blkC _ ab #[.slice la c.things.length lc, .int .i64 c.mn] 59, storeC _ sb sg sl sn, slC _ .u64 mv' sl, dtC _ xb mb sx, blkC _ yb #[.int .i64 x.doing, .int .u64 x.cy, .int .i64 x.turn, .int .i64 x.ek, .int .i64 0, .int .i64 x.ea, .int .i64 x.eb, .int .i64 0] 64, blkC _ t5.heap.size #[.int .i64 sx.doing, .int .u64 sx.cy, .int .i64 sx.turn, .int .i64 sx.ek, .int .i64 0, .int .i64 sx.ea, .int .i64 sx.eb, .int .i64 0] 64] := K4; with_reducible exact ⟨_, rfl, K5⟩) | (have K3 : Has w t5 [blkC _ w.heap.size (cfgCells c) 24, mapC _ mb av rv c, ownT _ (.slice la c.things.length lc) c.things, blkC _ ab #[.slice la c.things.length lc, .int .i64 c.mn] 59, storeC _ sb sg sl sn, slC _ .u64 mv' sl, dtC _ xb mb sx, blkC _ yb #[.int .i64 x.doing, .int .u64 x.cy, .int .i64 x.turn, .int .i64 x.ek, .int .i64 0, .int .i64 x.ea, .int .i64 x.eb, .int .i64 0] 64, blkC _ t4.heap.size #[.int .i64 0, .int .u64 0, .int .i64 0, .int .i64 0, .int .i64 0, .int .i64 0, .int .i64 0, .int .i64 0] 64] := K2; have K4 := K3.set8 8 rfl (.int .i64 sx.doing) (.int .u64 sx.cy) (.int .i64 sx.turn) (.int .i64 sx.ek) (.int .i64 0) (.int .i64 sx.ea) (.int .i64 sx.eb) (.int .i64 0); have K5 : Has w _ [blkC _ w.heap.size (cfgCells c) 24, mapC _ mb av rv c, ownT _ (.slice la c.things.length lc) c.things, blkC _ ab #[.slice la c.things.length lc, .int .i64 c.mn] 59, storeC _ sb sg sl sn, slC _ .u64 mv' sl, dtC _ xb mb sx, blkC _ yb #[.int .i64 x.doing, .int .u64 x.cy, .int .i64 x.turn, .int .i64 x.ek, .int .i64 0, .int .i64 x.ea, .int .i64 x.eb, .int .i64 0] 64, blkC _ t4.heap.size #[.int .i64 sx.doing, .int .u64 sx.cy, .int .i64 sx.turn, .int .i64 sx.ek, .int .i64 0, .int .i64 sx.ea, .int .i64 sx.eb, .int .i64 0] 64] := K4; with_reducible exact ⟨_, rfl, K5⟩) | (have K3 : Has w t5 [blkC _ w.heap.size (cfgCells c) 24, mapC _ mb av rv c, ownT _ (.slice la c.things.length lc) c.things, blkC _ ab #[.slice la c.things.length lc, .int .i64 c.mn] 59, storeC _ sb sg sl sn, slC _ .u64 mv' sl, dtC _ xb mb sx, blkC _ yb #[.int .i64 x.doing, .int .u64 x.cy, .int .i64 x.turn, .int .i64 x.ek, .int .i64 0, .int .i64 x.ea, .int .i64 x.eb, .int .i64 0] 64, blkC _ t3.heap.size #[.int .i64 0, .int .u64 0, .int .i64 0, .int .i64 0, .int .i64 0, .int .i64 0, .int .i64 0, .int .i64 0] 64] := K2; have K4 := K3.set8 8 rfl (.int .i64 sx.doing) (.int .u64 sx.cy) (.int .i64 sx.turn) (.int .i64 sx.ek) (.int .i64 0) (.int .i64 sx.ea) (.int .i64 sx.eb) (.int .i64 0); have K5 : Has w _ [blkC _ w.heap.size (cfgCells c) 24, mapC _ mb av rv c, ownT _ (.slice la c.things.length lc) c.things, blkC _ ab #[.slice la c.things.length lc, .int .i64 c.mn] 59, storeC _ sb sg sl sn, slC _ .u64 mv' sl, dtC _ xb mb sx, blkC _ yb #[.int .i64 x.doing, .int .u64 x.cy, .int .i64 x.turn, .int .i64 x.ek, .int .i64 0, .int .i64 x.ea, .int .i64 x.eb, .int .i64 0] 64, blkC _ t3.heap.size #[.int .i64 sx.doing, .int .u64 sx.cy, .int .i64 sx.turn, .int .i64 sx.ek, .int .i64 0, .int .i64 sx.ea, .int .i64 sx.eb, .int .i64 0] 64] := K4; with_reducible exact ⟨_, rfl, K5⟩)
      case rest =>
      obtain ⟨qb, rfl, G4⟩ := hcut
      clear G3 y0 y1 y2 y3 y4 y5 y6 y7 fy b0 b1 b2 b3 b4 b5 b6 b7 b8 b9 b10 b11 fb a0 a1
      obtain ⟨y0, y1, y2, y3, y4, y5, y6, y7, fy⟩ := row8 (G4.get 7 rfl)
      obtain ⟨q0, q1, q2, q3, q4, q5, q6, q7, fq⟩ := row8 (G4.get 8 rfl)
      go_wp2_with fail
      have K4 := G4.set8 7 rfl (.int .i64 sx.doing) (.int .u64 sx.cy) (.int .i64 sx.turn) (.int .i64 sx.ek) (.int .i64 0) (.int .i64 sx.ea) (.int .i64 sx.eb) (.int .i64 0)
      have K5 : Has w _ [blkC _ w.heap.size (cfgCells c) 24, mapC _ mb av rv c, ownT _ (.slice la c.things.length lc) c.things, blkC _ ab #[.slice la c.things.length lc, .int .i64 c.mn] 59, storeC _ sb sg sl sn, slC _ .u64 u21 sl, dtC _ xb mb sx, blkC _ yb #[.int .i64 sx.doing, .int .u64 sx.cy, .int .i64 sx.turn, .int .i64 sx.ek, .int .i64 0, .int .i64 sx.ea, .int .i64 sx.eb, .int .i64 0] 64, blkC _ qb #[.int .i64 sx.doing, .int .u64 sx.cy, .int .i64 sx.turn, .int .i64 sx.ek, .int .i64 0, .int .i64 sx.ea, .int .i64 sx.eb, .int .i64 0] 64] := K4
      obtain ⟨W, HW, eW⟩ := K5.name
      rw [← eW.out]
      clear G4 K4 K5 eW y0 y1 y2 y3 y4 y5 y6 y7 fy q0 q1 q2 q3 q4 q5 q6 q7 fq
      have HD := HW.drew
      obtain ⟨p0, p1, p2, p3, p4, p5, p6, p7, fp⟩ := row8 (HD.get 7 rfl)
      obtain ⟨o0, o1, o2, o3, o4, o5, o6, o7, fo⟩ := row8 (HW.get 7 rfl)
      have k1 : ((sx.doing : Int) != sx.doing) = false := by simp
      have k2 : (sx.cy != sx.cy) = false := by simp
      have k3 : (sx.ek == sx.ek) = true := by simp
      have k4 : (sx.ea == sx.ea) = true := by simp
      have k5 : (sx.eb == sx.eb) = true := by simp
      have k6 : (sl == sl) = true := by simp
      have k7 : (sn == n1) = idb := by rw [HSN.out, ← HID.out]; exact dtCount_eq x dv n1
      have k8 : (idb != idb) = false := by simp
      have k9 : ((0 : Int) == 0) = true := rfl
      have sll : sl.length < 1000000000000 := J.out.len
      go_region_held3 (fun w' => w'.cell? ⟨yb, 0, none⟩ = some (.int .i64 sx.doing) ∧ w'.cell? ⟨yb, 1, none⟩ = some (.int .u64 sx.cy) ∧ w'.cell? ⟨yb, 3, none⟩ = some (.int .i64 sx.ek) ∧ w'.cell? ⟨yb, 4, none⟩ = some (.int .i64 0) ∧ w'.cell? ⟨yb, 5, none⟩ = some (.int .i64 sx.ea) ∧ w'.cell? ⟨yb, 6, none⟩ = some (.int .i64 sx.eb) ∧ w'.cell? ⟨yb, 7, none⟩ = some (.int .i64 0)) (refine ⟨?_, ?_, ?_, ?_, ?_, ?_, ?_⟩ <;> (first | (with_reducible assumption) | (simp only [cell_drewN1, cell_drew1]; with_reducible assumption))) (first | (go_at_call 17; refine (Doing_q HD 6 rfl).mono ?_; rintro e v1 ⟨rfl, d1, rfl⟩; have H1 := HW.drewN d1; obtain ⟨gx0, gx1, gx2, gx3, gx4, gx5, gx6, gx7, fgx⟩ := row8 (H1.get 7 rfl)) | (go_at_call 21; refine (Cycle_q (HW.drewN _) 6 rfl).mono ?_; rintro e v2 ⟨rfl, d2, rfl⟩; have H2 := HW.drewN d2; obtain ⟨ix0, ix1, ix2, ix3, ix4, ix5, ix6, ix7, fix⟩ := row8 (H2.get 7 rfl)) | (go_at_call 25; refine (Event_c (HW.drewN _) 6 rfl).mono ?_; rintro e v3 ⟨rfl, q3⟩; have H3 := (HW.drewN _).up q3; obtain ⟨jx0, jx1, jx2, jx3, jx4, jx5, jx6, jx7, fjx⟩ := row8 (H3.get 7 rfl)) | (go_at_call 30; refine (Count_h H3 4 rfl).mono ?_; rintro e v4 ⟨rfl, hw⟩; obtain rfl := hw.symm) | (go_at_call 28; refine (All_h H3 4 rfl sll).mono ?_; rintro e v5 ⟨sv, rfl, H5⟩; obtain ⟨mx0, mx1, mx2, mx3, mx4, mx5, mx6, mx7, fmx⟩ := row8 (H5.get 7 rfl)) | (go_at_call 32; refine (RSame_h H5 9 rfl 5 rfl sll).mono ?_; rintro e v6 ⟨rfl, dn, rfl⟩; have H6 := H5.drewN dn; obtain ⟨rx0, rx1, rx2, rx3, rx4, rx5, rx6, rx7, frx⟩ := row8 (H6.get 7 rfl)))
      have H7 := H6.pick [0, 1, 2, 3, 4, 5, 6, 7] (by decide) (by simp)
      clear H6 H5 H3 H2 H1 HD HW p0 p1 p2 p3 p4 p5 p6 p7 fp o0 o1 o2 o3 o4 o5 o6 o7 fo gx0 gx1 gx2 gx3 gx4 gx5 gx6 gx7 fgx ix0 ix1 ix2 ix3 ix4 ix5 ix6 ix7 fix jx0 jx1 jx2 jx3 jx4 jx5 jx6 jx7 fjx mx0 mx1 mx2 mx3 mx4 mx5 mx6 mx7 fmx rx0 rx1 rx2 rx3 rx4 rx5 rx6 rx7 frx k1 k2 k3 k4 k5 k6 k7 k8 k9
      go_wp2_with fail
      go_roundw
      case rel => exact ⟨k + 1, sl, sn, sx, by omega, by go_num, J, H7⟩
      case measure => simp [intOf]; omega
    · have hlt' : ¬ (k : Int) < (np : Int) + 20 := by omega
      go_wp2_with fail
      refine (dtStepNil _ 1 _).mono ?_
      rintro e t1 ⟨rfl, d1, rfl⟩
      go_wp2_with fail
      refine (dtNewNil (G.drewN d1)).mono ?_
      rintro e t2 ⟨ob, rfl, G2⟩
      go_wp2_with fail
      refine (dtStepD G2 8 1 rfl _).mono ?_
      rintro e t3 ⟨rfl, d3, rfl⟩
      go_wp2_with fail
      refine (dtDoingNil _).mono ?_
      rintro e t4 ⟨rfl, d4, rfl⟩
      go_wp2_with fail
      refine (dtCycleNil _).mono ?_
      rintro e t5 ⟨rfl, d5, rfl⟩
      go_wp2_with fail
      refine (dtEventNil _).mono ?_
      rintro e t6 ⟨rfl, q6⟩
      have G6 := (G2.drewN _).up q6
      go_wp2_with fail
      refine (dtDoingD G6 8 rfl).mono ?_
      rintro e t7 ⟨rfl, d7, rfl⟩
      go_wp2_with fail
      refine (dtCycleD (G6.drewN _) 8 rfl).mono ?_
      rintro e t8 ⟨rfl, d8, rfl⟩
      go_wp2_with fail
      go_ret
      exact ⟨rfl, (G6.drewN _).below⟩

set_option maxRecDepth 100000 in
theorem dsteps_big (c : Cfg) (da : Option Addr) (nd dc : Nat) (pa : Option Addr) (np pc : Nat) (w : World) (hh : (100 : Int) < (np : Int) ∨ nd = 0 ∨ (60 : Int) < (nd : Int)) :
    Calls Try.prog 7 #[cfgV c, .slice da nd dc, .slice pa np pc] w fun e w' => e = .returned (.bool true) ∧ Below w.heap.size w w' := by
  unfold cfgV cfgCells
  go_enter Try.func7, Try.ntmps7
  have G0 := (Has.nil w).blkNew (cfgCells c) 24
  go_wp2_with fail
  refine (awake21 _).mono ?_
  rintro e w1 ⟨rfl, q1⟩
  have G1 := G0.up q1
  obtain ⟨b0, b1, b2, b3, b4, b5, b6, b7, b8, b9, b10, b11, fb⟩ := row12 (G1.get 0 rfl)
  clear G0 q1
  go_wp2_with fail
  refine (small21_c c _).mono ?_
  rintro e w2 ⟨b, rfl, hb, q2⟩
  have G2 := G1.up q2
  clear G1 q2 b0 b1 b2 b3 b4 b5 b6 b7 b8 b9 b10 b11 fb
  have HB := Lib.hid hb
  clear hb
  cases b with
  | false =>
    go_wp2_with fail
    go_ret
    exact ⟨rfl, G2.below⟩
  | true =>
    by_cases h1 : (100 : Int) < (np : Int)
    · go_wp2_with fail
      go_ret
      exact ⟨rfl, G2.below⟩
    · have h1b : decide ((100 : Int) < (np : Int)) = false := by simpa using h1
      have hh := hh.resolve_left h1
      by_cases h2 : nd = 0
      · subst h2
        have e0 : (((0 : Nat) : Int) == 0) = true := rfl
        go_wp2_with fail
        go_ret
        exact ⟨rfl, G2.below⟩
      · have h3 := hh.resolve_left h2
        have h2b : ((nd : Int) == 0) = false := by simpa using h2
        have h2c : (nd == 0) = false := by simpa using h2
        clear hh
        go_wp2_with fail
        go_ret
        exact ⟨rfl, G2.below⟩

theorem walk_DetectorSteps (c0 c1 c2 c3 c4 mr mu dq ch bf rt sw : Int) (da : Option Addr) (nd dc : Nat) (zs : List Int) (pa : Option Addr) (pl pc np : Nat) (w : World) (hr : IsRow .u8 w da nd dc zs) (hp : IsRows [.int .i64, .int .u64] w (.slice pa pl pc) np) :
    Calls Try.prog 7 #[.agg #[.int .i64 c0, .int .i64 c1, .int .i64 c2, .int .i64 c3, .int .i64 c4, .int .i64 mr, .int .i64 mu, .int .i64 dq, .int .i64 ch, .int .i64 bf, .int .i64 rt, .int .i64 sw], .slice da nd dc, .slice pa pl pc] w fun e w' => e = .returned (.bool true) ∧ Below w.heap.size w w' := by
  obtain rfl : pl = np := by
    rcases hp with ⟨h, h0⟩ | ⟨y, c, h, _⟩
    · cases h; exact h0.symm
    · cases h; rfl
  by_cases hh : (100 : Int) < (pl : Int) ∨ nd = 0 ∨ (60 : Int) < (nd : Int)
  · exact dsteps_big ⟨c0, c1, c2, c3, c4, mr, mu, dq, ch, bf, rt, sw⟩ da nd dc pa pl pc w hh
  · obtain ⟨l, hl, hsl, hwf⟩ := row_opens hr
    exact dsteps_ok ⟨c0, c1, c2, c3, c4, mr, mu, dq, ch, bf, rt, sw⟩ da nd dc l pa pc pl w hsl hl (fun x hx => by have := Go.bounds_u8 (hwf x hx); omega) hp (by omega) (by omega) (by omega)

end Go.Proofs.Ytgodnmcfbbchoaa
