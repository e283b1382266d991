/- The walk of DetectorOrder: it answers true, and nothing that was there is changed. No condition but that the arguments can be read. -/
import Derived.Test.YtgodnmcfbbchoaaAw21
import Derived.Test.YtgodnmcfbbchoaaMeth21
import Derived.Test.YtgodnmcfbbchoaaDt21q
set_option linter.unusedVariables false
set_option linter.unusedSimpArgs false
namespace Go.Proofs.Ytgodnmcfbbchoaa
open Go.ChangeShapes Go.WideShapes Go.ChangeAt Go.RowKit

/-- The phase that a detector has told last. -/
def phOf : Nat → Int
  | 0 => 0 | 1 => 1 | 2 => 1 | 3 => 2 | 4 => 2 | 5 => 3 | 6 => 3 | 7 => 4 | 8 => 4 | 9 => 4 | 10 => 4 | 11 => 4 | _ => 5
theorem phOf_bd (d : Nat) : 0 ≤ phOf d ∧ phOf d ≤ 5 := by
  unfold phOf; split <;> omega

/-- What a step told: nothing, or the next phase. -/
inductive Told (c : Cfg) (x : Dt) (s : List Int × Dt) : Prop
  | none (h1 : s.2.ek = 0) (h2 : s.2.ea = 0) (h3 : s.2.eb = 0) (h4 : phOf s.2.doing = phOf x.doing) (h5 : s.2.cy = x.cy)
  | some (h1 : s.2.ek = 7) (h2 : s.2.ea = (phOf x.doing + 1) % 6) (h3 : s.2.eb = s.2.cy) (h4 : phOf s.2.doing = (phOf x.doing + 1) % 6) (h5 : s.2.cy = bif (phOf x.doing + 1) % 6 == 1 then x.cy + 1 else x.cy) (h6 : mld s.1 0 = wPhase s.2.cy ((phOf x.doing + 1) % 6))

theorem told_step {c : Cfg} {l : List Int} {x : Dt} (d : Int) (ok : DtOk c x) (hl : 0 < l.length) : Told c x (dtStep c l x d) := by
  obtain ⟨doing, cy, t, ek, ea, eb⟩ := x
  have h1 := ok.doing
  dsimp only at h1
  have m0 : ∀ v, mld (mput l 0 v) 0 = v := fun v => mld_mput_same (by omega) v
  have said : ∀ q least, (q = 1 ∨ q = 3 ∨ q = 5) → Told c ⟨q, cy, t, ek, ea, eb⟩ (l, dtSaid c l q cy t least) := fun q least hq => by
    rcases said_cases c l q cy t least with ⟨_, e⟩ | ⟨_, _, e⟩ | ⟨_, _, e⟩ <;> rw [e]
    · exact .none rfl rfl rfl rfl rfl
    · exact .none rfl rfl rfl rfl rfl
    · rcases hq with rfl | rfl | rfl <;> exact .none rfl rfl rfl rfl rfl
  match doing, h1 with
  | 0, _ =>
    show Told c _ (bif d % 2 == 0 then (l, (⟨0, cy, t, 0, 0, 0⟩ : Dt)) else dtTell l 0 (cy + 1) 1)
    cases d % 2 == 0
    · exact .some rfl rfl rfl rfl rfl (m0 _)
    · exact .none rfl rfl rfl rfl rfl
  | 1, _ => exact said 1 _ (by omega)
  | 2, _ => exact .some rfl rfl rfl rfl rfl (m0 _)
  | 3, _ => exact said 3 _ (by omega)
  | 4, _ => exact .some rfl rfl rfl rfl rfl (m0 _)
  | 5, _ => exact said 5 _ (by omega)
  | 6, _ => exact .some rfl rfl rfl rfl rfl (m0 _)
  | 7, _ =>
    show Told c _ (l, (⟨bif mld l 1 != 0 then 7 else 8, cy, t, 0, 0, 0⟩ : Dt))
    cases mld l 1 != 0 <;> exact .none rfl rfl rfl rfl rfl
  | 8, _ =>
    show Told c _ (l, (⟨bif mld l 1 != 0 then 7 else 9, cy, t, 0, 0, 0⟩ : Dt))
    cases mld l 1 != 0 <;> exact .none rfl rfl rfl rfl rfl
  | 9, _ => exact .none rfl rfl rfl rfl rfl
  | 10, _ => exact .none rfl rfl rfl rfl rfl
  | 11, _ => exact .some rfl rfl rfl rfl rfl (m0 _)
  | 12, _ =>
    show Told c _ (l, (⟨bif mld l 3 != c.pt then 12 else 13, cy, t, 0, 0, 0⟩ : Dt))
    cases mld l 3 != c.pt <;> exact .none rfl rfl rfl rfl rfl
  | 13, _ => exact .some rfl rfl rfl rfl rfl (m0 _)

/-- What holds between two rounds. -/
structure OInv (c : Cfg) (k : Nat) (l : List Int) (x : Dt) : Prop where
  ok : DtOk c x
  cy : x.cy ≤ k
  len : 6 + c.mu ≤ (l.length : Int)
theorem oinv_put {c : Cfg} {k : Nat} {l : List Int} {x : Dt} (I : OInv c k l x) (a v : Int) : OInv c k (mput l a v) x := ⟨I.ok, I.cy, by rw [mput_length]; exact I.len⟩
theorem oinv_step {c : Cfg} (h : CfgOk c) {k : Nat} {l : List Int} {x : Dt} (d : Int) (I : OInv c k l x) : OInv c (k + 1) (dtStep c l x d).1 (dtStep c l x d).2 ∧ Told c x (dtStep c l x d) :=
  ⟨⟨dt_ok h l x d I.ok, by have := (dt_cy_le c l x d).2; have := I.cy; omega, by rw [(dt_mem c l x d).1]; exact I.len⟩, told_step d I.ok (by have := I.len; have := h.mu; omega)⟩

theorem EventD_c {w0 w : World} {cs : List (Chunk w0.heap.size)} (H : Has w0 w cs) (j : Nat) {xb mb : Nat} {x : Dt} (hj : cs[j]? = some (dtC _ xb mb x)) (ek ea eb : Int) (h1 : x.ek = ek) (h2 : x.ea = ea) (h3 : x.eb = eb) : Calls Try.prog 25 #[.pointer (some ⟨xb, 0, none⟩)] w fun e w' => e = .returned (.agg #[.int .i64 ek, .int .i64 0, .int .i64 ea, .int .i64 eb, .int .i64 0]) ∧ Below w.heap.size w w' := by
  subst h1 h2 h3; exact Event_c H j hj

set_option maxRecDepth 100000 in
theorem order_big (c : Cfg) (da : Option Addr) (nd dc : Nat) (pa : Option Addr) (np pc : Nat) (w : World) (hh : (100 : Int) < (np : Int) ∨ nd = 0 ∨ (60 : Int) < (nd : Int)) :
    Calls Try.prog 5 #[cfgV c, .slice da nd dc, .slice pa np pc] w fun e w' => e = .returned (.bool true) ∧ Below w.heap.size w w' := by
  unfold cfgV cfgCells
  go_enter Try.func5, Try.ntmps5
  have G0 := (Has.nil w).blkNew (cfgCells c) 24
  go_wp2_with fail
  refine (awake21 _).mono ?_
  rintro e w1 ⟨rfl, q1⟩
  have G1 := G0.up q1
  obtain ⟨b0, b1, b2, b3, b4, b5, b6, b7, b8, b9, b10, b11, fb⟩ := row12 (G1.get 0 rfl)
  clear G0 q1
  go_wp2_with fail
  refine (small21_c c _).mono ?_
  rintro e w2 ⟨b, rfl, hb, q2⟩
  have G2 := G1.up q2
  clear G1 q2 b0 b1 b2 b3 b4 b5 b6 b7 b8 b9 b10 b11 fb
  have HB := Lib.hid hb
  clear hb
  cases b with
  | false =>
    go_wp2_with fail
    go_ret
    exact ⟨rfl, G2.below⟩
  | true =>
    by_cases h1 : (100 : Int) < (np : Int)
    · go_wp2_with fail
      go_ret
      exact ⟨rfl, G2.below⟩
    · have h1b : decide ((100 : Int) < (np : Int)) = false := by simpa using h1
      have hh := hh.resolve_left h1
      by_cases h2 : nd = 0
      · subst h2
        have e0 : (((0 : Nat) : Int) == 0) = true := rfl
        go_wp2_with fail
        go_ret
        exact ⟨rfl, G2.below⟩
      · have h3 := hh.resolve_left h2
        have h2b : ((nd : Int) == 0) = false := by simpa using h2
        have h2c : (nd == 0) = false := by simpa using h2
        clear hh
        go_wp2_with fail
        go_ret
        exact ⟨rfl, G2.below⟩

set_option maxRecDepth 100000 in
set_option maxHeartbeats 16000000 in
theorem order_ok (c : Cfg) (da : Option Addr) (nd dc : Nat) (ds : List Int) (pa : Option Addr) (np pc : Nat) (w : World) (hsl : Sl w [] .u8 (.slice da nd dc) ds) (hnd : nd = ds.length) (hds : ∀ x ∈ ds, 0 ≤ x ∧ x < 256) (hrow : IsRows [.int .i64, .int .u64] w (.slice pa np pc) np) (h1 : ¬ (100 : Int) < (np : Int)) (h2 : 0 < nd) (h3 : ¬ (60 : Int) < (nd : Int)) :
    Calls Try.prog 5 #[cfgV c, .slice da nd dc, .slice pa np pc] w fun e w' => e = .returned (.bool true) ∧ Below w.heap.size w w' := by
  have HSL := Lib.hid hsl
  have HND := Lib.hid hnd
  have HDS := Lib.hid hds
  have ROW := Lib.hid hrow
  have h1b : decide ((100 : Int) < (np : Int)) = false := by simpa using h1
  have h2b : ((nd : Int) == 0) = false := by simp; omega
  have h2c : (nd == 0) = false := by simp; omega
  have h3b : decide ((60 : Int) < (nd : Int)) = false := by simpa using h3
  clear hsl hnd hds hrow
  unfold cfgV cfgCells
  go_enter Try.func5, Try.ntmps5
  have G0 := (Has.nil w).blkNew (cfgCells c) 24
  go_wp2_with fail
  refine (awake21 _).mono ?_
  rintro e w1 ⟨rfl, q1⟩
  have G1 := G0.up q1
  obtain ⟨b0, b1, b2, b3, b4, b5, b6, b7, b8, b9, b10, b11, fb⟩ := row12 (G1.get 0 rfl)
  clear G0 q1
  go_wp2_with fail
  refine (small21_c c _).mono ?_
  rintro e w2 ⟨b, rfl, hb, q2⟩
  have G2 := G1.up q2
  clear G1 q2 b0 b1 b2 b3 b4 b5 b6 b7 b8 b9 b10 b11 fb
  have HB := Lib.hid hb
  clear hb
  cases b with
  | false =>
    go_wp2_with fail
    go_ret
    exact ⟨rfl, G2.below⟩
  | true =>
    have h : CfgOk c := (cfgOk_iff c).1 (HB.out rfl)
    obtain ⟨b0, b1, b2, b3, b4, b5, b6, b7, b8, b9, b10, b11, fb⟩ := row12 (G2.get 0 rfl)
    go_wp2_with fail
    refine (New_m G2 c h).mono ?_
    rintro e w3 ⟨mb, av, rv, rfl, G3⟩
    clear G2 b0 b1 b2 b3 b4 b5 b6 b7 b8 b9 b10 b11 fb
    obtain ⟨b0, b1, b2, b3, b4, b5, b6, b7, b8, b9, b10, b11, fb⟩ := row12 (G3.get 0 rfl)
    go_wp2_with fail
    refine (First_h G3 1 rfl h).mono ?_
    rintro e w7 ⟨g, gn, rfl, G7⟩
    have hfr := first_room h
    go_wp2_with fail
    refine (New_h G7 _ c.first (sl_of_ownN (G7.get 2 rfl)) (by omega)).mono ?_
    rintro e w8 ⟨sb, sg, rfl, G8'⟩
    have G8 := G8'.pick [0, 1, 3] (by decide) (by simp)
    clear G3 G7 G8' b0 b1 b2 b3 b4 b5 b6 b7 b8 b9 b10 b11 fb
    go_wp2_with fail
    refine (dtNew_h G8 mb).mono ?_
    rintro e w9 ⟨xb, rfl, G9⟩
    clear G8
    have hmu := h.mu
    have HF := Lib.hid hfr.1
    clear hfr
    go_wp2_with fail
    go_loopw [13, 14, 15, 16, 17, 18] (fun phv cyv kv u16 u17 u18 wr => ∃ (k : Nat) (l : List Int) (n : Int) (x : Dt), k ≤ np + 20 ∧ kv = .int .i64 k ∧ phv = .int .i64 (phOf x.doing) ∧ cyv = .int .u64 x.cy ∧ Hid (OInv c k l x) ∧ Has w wr [blkC _ w.heap.size (cfgCells c) 24, mapC _ mb av rv c, storeC _ sb sg l n, dtC _ xb mb x]) (fun _ _ kv _ _ _ _ => 121 - (intOf kv).toNat)
    case atStart => exact ⟨0, c.first, _, d0, by omega, rfl, rfl, rfl, Lib.hid ⟨dtOk0 h, by decide, HF.out⟩, G9⟩
    case round =>
    obtain ⟨k, l, n, x, hk, rfl, rfl, rfl, I, G⟩ := hrel
    clear G9
    have pb5 := phOf_bd x.doing
    have cy0 := I.out.ok.cy0
    have cy1 : x.cy < 121 := by have := I.out.cy; omega
    by_cases hlt : k < np + 20
    · have hlt' : (k : Int) < (np : Int) + 20 := by omega
      have hkd : k % nd < ds.length := by rw [← HND.out]; exact Nat.mod_lt _ h2
      have rk : (k : Int).tmod (nd : Int) = ((k % nd : Nat) : Int) := by rw [Int.tmod_eq_emod_of_nonneg (by omega)]; omega
      have hkd' : ((k % nd : Nat) : Int) < (nd : Int) := by have := Nat.mod_lt k h2; omega
      obtain ⟨dv, hdv⟩ : ∃ dv, ds[k % nd]? = some dv := ⟨ds[k % nd], by simp [hkd]⟩
      have dvb := HDS.out dv (List.mem_of_getElem? hdv)
      have hdne : ds ≠ [] := by rintro rfl; simp at hkd
      have DC : Hid (∃ db off, da = some ⟨db, off, none⟩ ∧ ∀ (wq : World) (cq : List (Chunk w.heap.size)), Has w wq cq → wq.cell? ⟨db, off + k % nd, none⟩ = some (.int .u8 dv)) := Lib.hid (by
        obtain ⟨db, off, hab, -, -, hcell⟩ := sl_at HSL.out hdne
        refine ⟨db, off, hab, fun wq cq Hq => ?_⟩
        have h0 := hcell (k % nd) dv hdv
        have hbl : db < w.heap.size := by
          rcases Nat.lt_or_ge db w.heap.size with q | q
          · exact q
          · simp [World.cell?, Array.getElem?_eq_none q] at h0
        exact (Hq.below.cell (p := ⟨db, off + k % nd, none⟩) hbl).trans h0)
      obtain ⟨db, doff, hda, -⟩ := DC.out
      subst hda
      have DCC : Hid (∀ (wq : World) (cq : List (Chunk w.heap.size)), Has w wq cq → wq.cell? ⟨db, doff + k % nd, none⟩ = some (.int .u8 dv)) := Lib.hid (by
        obtain ⟨db', doff', hda', hq⟩ := DC.out
        cases hda'
        exact hq)
      clear DC hdne hdv hkd
      generalize k % nd = kd at rk hkd' DCC
      by_cases hp : k < np
      · have hp' : (k : Int) < (np : Int) := by omega
        obtain ⟨pb, poff, pcap, hpv, hpb, hrows⟩ := rows_at ROW.out (by omega) (by decide)
        simp only [Value.slice.injEq] at hpv
        obtain ⟨rfl, -, rfl⟩ := hpv
        obtain ⟨vs, hsc, hcl⟩ := hrows k hp
        obtain ⟨p0, p1, rfl, ⟨at_, rfl, w0'⟩, ⟨y, rfl, w1'⟩⟩ := scal2 hsc
        have hcl0 := Lib.hid (hcl 0 (by decide))
        have hcl1 := Lib.hid (hcl 1 (by decide))
        have hpb' := Lib.hid hpb
        have d0 : wr.cell? ⟨pb, poff + k * 2, none⟩ = some (.int .i64 at_) := (G.below.cell (p := ⟨pb, poff + k * 2, none⟩) hpb).trans hcl0.out
        have d1 : wr.cell? ⟨pb, poff + k * 2 + 1, none⟩ = some (.int .u64 y) := (G.below.cell (p := ⟨pb, poff + k * 2 + 1, none⟩) hpb).trans hcl1.out
        have AB := Lib.hid (Go.bounds_i64 w0')
        clear hrows hsc hcl hpb w0' w1'
        go_wp2_with fail
        have hph : (at_ != 0) = (at_ != 0) := rfl
        by_cases ha0 : at_ = 0
        · have ha0b : (at_ != 0) = false := by simpa using ha0
          have HA0 := Lib.hid ha0
          clear ha0
          go_region_held3 (fun w' => w'.cell? ⟨pb, poff + k * 2, none⟩ = some (.int .i64 at_)) (first | (with_reducible assumption) | (simp only [cell_drewN1, cell_drew1]; with_reducible assumption)) (first | (go_at_call 23; refine (Phase_q ((G.drewN _).mAt 1 rfl h)).mono ?_; rintro e w1' ⟨rfl, e1, rfl⟩))
          have G1 := G.drewN 0
          have dcell := DCC.out _ _ G
          go_wp2_with fail
          refine (dtStep_h (G.drewN _) 2 3 1 rfl rfl (by decide) h x dv rfl I.out.ok (by omega) dvb.1).mono ?_
          rintro e t5 ⟨rfl, G5'⟩
          have J := Lib.hid (oinv_step h dv I.out)
          generalize hs : dtStep c l x dv = s at G5' J
          have G5 : Has w t5 [blkC _ w.heap.size (cfgCells c) 24, mapC _ mb av rv c, storeC _ sb sg s.1 _, dtC _ xb mb s.2] := G5'
          have X1 := Lib.hid J.out.1
          rcases J.out.2 with ⟨j1, j2, j3, j4, j5⟩ | ⟨j1, j2, j3, j4, j5, j6⟩
          · have J4 := Lib.hid j4
            have J5 := Lib.hid j5
            clear hs G5' G1 j4 j5 dcell
            go_wp2_with fail
            refine (EventD_c G5 3 rfl 0 0 0 j1 j2 j3).mono ?_
            rintro e t6 ⟨rfl, q6⟩
            have G6 := (G5.up q6).alloc (.cells #[.int .i64 0, .int .i64 0, .int .i64 0, .int .i64 0, .int .i64 0] 53)
            clear j1 j2 j3 q6
            go_wp2_with fail
            go_roundw
            case rel => exact ⟨k + 1, _, _, _, by omega, by go_num, by rw [J4.out], by rw [J5.out], X1, G6⟩
            case measure => simp [intOf]; omega
          · obtain ⟨WN, hWN⟩ : ∃ WN, (phOf x.doing + 1) % 6 = WN := ⟨_, rfl⟩
            rw [hWN] at j2 j4 j5 j6
            have J4 := Lib.hid j4
            have J5 := Lib.hid j5
            have J6 := Lib.hid j6
            clear hs G5' G1 j4 j5 j6 dcell
            obtain ⟨cy2, hcy2⟩ : ∃ cy2, s.2.cy = cy2 := ⟨_, rfl⟩
            rw [hcy2] at j3
            have HC2 := Lib.hid hcy2
            clear hcy2
            go_wp2_with fail
            refine (EventD_c G5 3 rfl 7 WN cy2 j1 j2 j3).mono ?_
            rintro e t6 ⟨rfl, q6⟩
            have G6 := (G5.up q6).alloc (.cells #[.int .i64 7, .int .i64 0, .int .i64 WN, .int .i64 cy2, .int .i64 0] 53)
            clear j1 j2 j3 q6
            have wn0 : 0 ≤ WN ∧ WN ≤ 5 := by omega
            obtain ⟨V, HV, eV⟩ := G6.name
            by_cases hw1 : WN = 1
            · have C2 : cy2 = x.cy + 1 := by
                have := J5.out
                rw [HC2.out, hw1] at this
                exact this
              have C2H := Lib.hid C2
              have hw1b : (WN == 1) = true := by simpa using hw1
              have HW1 := Lib.hid hw1
              clear hw1
              subst C2
              go_wp2_with fail
              refine (Cycle_q G6 3 rfl).mono ?_
              rw [HC2.out]
              rintro e t7 ⟨rfl, d7, rfl⟩
              go_wp2_with fail
              refine (Phase_q ((G6.drewN _).mAt 1 rfl h)).mono ?_
              rintro e t8 ⟨rfl, d8, rfl⟩
              go_wp2_with fail
              refine (Load_h (G6.drewN _) 2 rfl 0).mono ?_
              rw [J6.out, HC2.out]
              rintro e t9 ⟨rfl, G9⟩
              go_wp2_with fail
              refine (Phase_c _ WN (by omega) (by omega) _).mono ?_
              rintro e t10 ⟨rfl, d10, rfl⟩
              go_wp2_with fail
              go_roundw
              case rel => exact ⟨k + 1, _, _, _, by omega, by go_num, by rw [J4.out], by rw [HC2.out], X1, G9.drewN _⟩
              case measure => simp [intOf]; omega
            · have C2 : cy2 = x.cy := by
                have hb : (WN == 1) = false := by simpa using hw1
                have := J5.out
                rw [HC2.out, hb] at this
                exact this
              have hw1b : (WN == 1) = false := by simpa using hw1
              have HW1 := Lib.hid hw1
              clear hw1
              subst C2
              go_wp2_with fail
              refine (Cycle_q G6 3 rfl).mono ?_
              rw [HC2.out]
              rintro e t7 ⟨rfl, d7, rfl⟩
              go_wp2_with fail
              refine (Phase_q ((G6.drewN _).mAt 1 rfl h)).mono ?_
              rintro e t8 ⟨rfl, d8, rfl⟩
              go_wp2_with fail
              refine (Load_h (G6.drewN _) 2 rfl 0).mono ?_
              rw [J6.out, HC2.out]
              rintro e t9 ⟨rfl, G9⟩
              go_wp2_with fail
              refine (Phase_c _ WN (by omega) (by omega) _).mono ?_
              rintro e t10 ⟨rfl, d10, rfl⟩
              go_wp2_with fail
              go_roundw
              case rel => exact ⟨k + 1, _, _, _, by omega, by go_num, by rw [J4.out], by rw [HC2.out], X1, G9.drewN _⟩
              case measure => simp [intOf]; omega
        · have ha0b : (at_ != 0) = true := by simpa using ha0
          have HA0 := Lib.hid ha0
          clear ha0
          go_region_held3 (fun w' => w'.cell? ⟨pb, poff + k * 2, none⟩ = some (.int .i64 at_)) (first | (with_reducible assumption) | (simp only [cell_drewN1, cell_drew1]; with_reducible assumption)) (first | (go_at_call 23; refine (Phase_q ((G.drewN _).mAt 1 rfl h)).mono ?_; rintro e w1' ⟨rfl, e1, rfl⟩))
          by_cases ha5 : (5 : Int) < at_ ∧ at_ < 10
          · have ha6 := ha5.1
            have ha7 := ha5.2
            clear ha5
            have ha8 : IntKind.i64.wrap (at_ - 6) = at_ - 6 := wrapi64_id _ (by omega) (by omega)
            go_wp2_with fail
            refine (Ack_q ((G.drewN _).mAt 1 rfl h) _).mono ?_
            rintro e t1 ⟨rfl, e1, rfl⟩
            go_wp2_with fail
            refine (Put_h (G.drewN _) 2 rfl _ y).mono ?_
            rintro e t2 ⟨rfl, G1⟩
            have I1 := Lib.hid (oinv_put I.out (c.ackAt (at_ - 6)) y)
            have dcell := DCC.out _ _ G1
            go_wp2_with fail
            refine (dtStep_h G1 2 3 1 rfl rfl (by decide) h x dv rfl I.out.ok (by omega) dvb.1).mono ?_
            rintro e t5 ⟨rfl, G5'⟩
            have J := Lib.hid (oinv_step h dv I1.out)
            generalize hs : dtStep c (mput l (c.ackAt (at_ - 6)) y) x dv = s at G5' J
            have G5 : Has w t5 [blkC _ w.heap.size (cfgCells c) 24, mapC _ mb av rv c, storeC _ sb sg s.1 _, dtC _ xb mb s.2] := G5'
            have X1 := Lib.hid J.out.1
            rcases J.out.2 with ⟨j1, j2, j3, j4, j5⟩ | ⟨j1, j2, j3, j4, j5, j6⟩
            · have J4 := Lib.hid j4
              have J5 := Lib.hid j5
              clear hs G5' G1 j4 j5 dcell
              go_wp2_with fail
              refine (EventD_c G5 3 rfl 0 0 0 j1 j2 j3).mono ?_
              rintro e t6 ⟨rfl, q6⟩
              have G6 := (G5.up q6).alloc (.cells #[.int .i64 0, .int .i64 0, .int .i64 0, .int .i64 0, .int .i64 0] 53)
              clear j1 j2 j3 q6
              go_wp2_with fail
              go_roundw
              case rel => exact ⟨k + 1, _, _, _, by omega, by go_num, by rw [J4.out], by rw [J5.out], X1, G6⟩
              case measure => simp [intOf]; omega
            · obtain ⟨WN, hWN⟩ : ∃ WN, (phOf x.doing + 1) % 6 = WN := ⟨_, rfl⟩
              rw [hWN] at j2 j4 j5 j6
              have J4 := Lib.hid j4
              have J5 := Lib.hid j5
              have J6 := Lib.hid j6
              clear hs G5' G1 j4 j5 j6 dcell
              obtain ⟨cy2, hcy2⟩ : ∃ cy2, s.2.cy = cy2 := ⟨_, rfl⟩
              rw [hcy2] at j3
              have HC2 := Lib.hid hcy2
              clear hcy2
              go_wp2_with fail
              refine (EventD_c G5 3 rfl 7 WN cy2 j1 j2 j3).mono ?_
              rintro e t6 ⟨rfl, q6⟩
              have G6 := (G5.up q6).alloc (.cells #[.int .i64 7, .int .i64 0, .int .i64 WN, .int .i64 cy2, .int .i64 0] 53)
              clear j1 j2 j3 q6
              have wn0 : 0 ≤ WN ∧ WN ≤ 5 := by omega
              obtain ⟨V, HV, eV⟩ := G6.name
              by_cases hw1 : WN = 1
              · have C2 : cy2 = x.cy + 1 := by
                  have := J5.out
                  rw [HC2.out, hw1] at this
                  exact this
                have C2H := Lib.hid C2
                have hw1b : (WN == 1) = true := by simpa using hw1
                have HW1 := Lib.hid hw1
                clear hw1
                subst C2
                go_wp2_with fail
                refine (Cycle_q G6 3 rfl).mono ?_
                rw [HC2.out]
                rintro e t7 ⟨rfl, d7, rfl⟩
                go_wp2_with fail
                refine (Phase_q ((G6.drewN _).mAt 1 rfl h)).mono ?_
                rintro e t8 ⟨rfl, d8, rfl⟩
                go_wp2_with fail
                refine (Load_h (G6.drewN _) 2 rfl 0).mono ?_
                rw [J6.out, HC2.out]
                rintro e t9 ⟨rfl, G9⟩
                go_wp2_with fail
                refine (Phase_c _ WN (by omega) (by omega) _).mono ?_
                rintro e t10 ⟨rfl, d10, rfl⟩
                go_wp2_with fail
                go_roundw
                case rel => exact ⟨k + 1, _, _, _, by omega, by go_num, by rw [J4.out], by rw [HC2.out], X1, G9.drewN _⟩
                case measure => simp [intOf]; omega
              · have C2 : cy2 = x.cy := by
                  have hb : (WN == 1) = false := by simpa using hw1
                  have := J5.out
                  rw [HC2.out, hb] at this
                  exact this
                have hw1b : (WN == 1) = false := by simpa using hw1
                have HW1 := Lib.hid hw1
                clear hw1
                subst C2
                go_wp2_with fail
                refine (Cycle_q G6 3 rfl).mono ?_
                rw [HC2.out]
                rintro e t7 ⟨rfl, d7, rfl⟩
                go_wp2_with fail
                refine (Phase_q ((G6.drewN _).mAt 1 rfl h)).mono ?_
                rintro e t8 ⟨rfl, d8, rfl⟩
                go_wp2_with fail
                refine (Load_h (G6.drewN _) 2 rfl 0).mono ?_
                rw [J6.out, HC2.out]
                rintro e t9 ⟨rfl, G9⟩
                go_wp2_with fail
                refine (Phase_c _ WN (by omega) (by omega) _).mono ?_
                rintro e t10 ⟨rfl, d10, rfl⟩
                go_wp2_with fail
                go_roundw
                case rel => exact ⟨k + 1, _, _, _, by omega, by go_num, by rw [J4.out], by rw [HC2.out], X1, G9.drewN _⟩
                case measure => simp [intOf]; omega
          · have ha6 : ¬ (5 : Int) < at_ ∨ ¬ at_ < 10 := by omega
            have I1 := Lib.hid (oinv_put I.out at_ y)
            have HAA := Lib.hid ha5
            clear ha5
            by_cases ha7 : (5 : Int) < at_
            · have ha8 : ¬ at_ < 10 := by omega
              go_wp2_with fail
              refine (Put_h (G.drewN _) 2 rfl at_ y).mono ?_
              rintro e t2 ⟨rfl, G1⟩
              have dcell := DCC.out _ _ G1
              go_wp2_with fail
              refine (dtStep_h G1 2 3 1 rfl rfl (by decide) h x dv rfl I.out.ok (by omega) dvb.1).mono ?_
              rintro e t5 ⟨rfl, G5'⟩
              have J := Lib.hid (oinv_step h dv I1.out)
              generalize hs : dtStep c (mput l at_ y) x dv = s at G5' J
              have G5 : Has w t5 [blkC _ w.heap.size (cfgCells c) 24, mapC _ mb av rv c, storeC _ sb sg s.1 _, dtC _ xb mb s.2] := G5'
              have X1 := Lib.hid J.out.1
              rcases J.out.2 with ⟨j1, j2, j3, j4, j5⟩ | ⟨j1, j2, j3, j4, j5, j6⟩
              · have J4 := Lib.hid j4
                have J5 := Lib.hid j5
                clear hs G5' G1 j4 j5 dcell
                go_wp2_with fail
                refine (EventD_c G5 3 rfl 0 0 0 j1 j2 j3).mono ?_
                rintro e t6 ⟨rfl, q6⟩
                have G6 := (G5.up q6).alloc (.cells #[.int .i64 0, .int .i64 0, .int .i64 0, .int .i64 0, .int .i64 0] 53)
                clear j1 j2 j3 q6
                go_wp2_with fail
                go_roundw
                case rel => exact ⟨k + 1, _, _, _, by omega, by go_num, by rw [J4.out], by rw [J5.out], X1, G6⟩
                case measure => simp [intOf]; omega
              · obtain ⟨WN, hWN⟩ : ∃ WN, (phOf x.doing + 1) % 6 = WN := ⟨_, rfl⟩
                rw [hWN] at j2 j4 j5 j6
                have J4 := Lib.hid j4
                have J5 := Lib.hid j5
                have J6 := Lib.hid j6
                clear hs G5' G1 j4 j5 j6 dcell
                obtain ⟨cy2, hcy2⟩ : ∃ cy2, s.2.cy = cy2 := ⟨_, rfl⟩
                rw [hcy2] at j3
                have HC2 := Lib.hid hcy2
                clear hcy2
                go_wp2_with fail
                refine (EventD_c G5 3 rfl 7 WN cy2 j1 j2 j3).mono ?_
                rintro e t6 ⟨rfl, q6⟩
                have G6 := (G5.up q6).alloc (.cells #[.int .i64 7, .int .i64 0, .int .i64 WN, .int .i64 cy2, .int .i64 0] 53)
                clear j1 j2 j3 q6
                have wn0 : 0 ≤ WN ∧ WN ≤ 5 := by omega
                obtain ⟨V, HV, eV⟩ := G6.name
                by_cases hw1 : WN = 1
                · have C2 : cy2 = x.cy + 1 := by
                    have := J5.out
                    rw [HC2.out, hw1] at this
                    exact this
                  have C2H := Lib.hid C2
                  have hw1b : (WN == 1) = true := by simpa using hw1
                  have HW1 := Lib.hid hw1
                  clear hw1
                  subst C2
                  go_wp2_with fail
                  refine (Cycle_q G6 3 rfl).mono ?_
                  rw [HC2.out]
                  rintro e t7 ⟨rfl, d7, rfl⟩
                  go_wp2_with fail
                  refine (Phase_q ((G6.drewN _).mAt 1 rfl h)).mono ?_
                  rintro e t8 ⟨rfl, d8, rfl⟩
                  go_wp2_with fail
                  refine (Load_h (G6.drewN _) 2 rfl 0).mono ?_
                  rw [J6.out, HC2.out]
                  rintro e t9 ⟨rfl, G9⟩
                  go_wp2_with fail
                  refine (Phase_c _ WN (by omega) (by omega) _).mono ?_
                  rintro e t10 ⟨rfl, d10, rfl⟩
                  go_wp2_with fail
                  go_roundw
                  case rel => exact ⟨k + 1, _, _, _, by omega, by go_num, by rw [J4.out], by rw [HC2.out], X1, G9.drewN _⟩
                  case measure => simp [intOf]; omega
                · have C2 : cy2 = x.cy := by
                    have hb : (WN == 1) = false := by simpa using hw1
                    have := J5.out
                    rw [HC2.out, hb] at this
                    exact this
                  have hw1b : (WN == 1) = false := by simpa using hw1
                  have HW1 := Lib.hid hw1
                  clear hw1
                  subst C2
                  go_wp2_with fail
                  refine (Cycle_q G6 3 rfl).mono ?_
                  rw [HC2.out]
                  rintro e t7 ⟨rfl, d7, rfl⟩
                  go_wp2_with fail
                  refine (Phase_q ((G6.drewN _).mAt 1 rfl h)).mono ?_
                  rintro e t8 ⟨rfl, d8, rfl⟩
                  go_wp2_with fail
                  refine (Load_h (G6.drewN _) 2 rfl 0).mono ?_
                  rw [J6.out, HC2.out]
                  rintro e t9 ⟨rfl, G9⟩
                  go_wp2_with fail
                  refine (Phase_c _ WN (by omega) (by omega) _).mono ?_
                  rintro e t10 ⟨rfl, d10, rfl⟩
                  go_wp2_with fail
                  go_roundw
                  case rel => exact ⟨k + 1, _, _, _, by omega, by go_num, by rw [J4.out], by rw [HC2.out], X1, G9.drewN _⟩
                  case measure => simp [intOf]; omega
            · go_wp2_with fail
              refine (Put_h (G.drewN _) 2 rfl at_ y).mono ?_
              rintro e t2 ⟨rfl, G1⟩
              have dcell := DCC.out _ _ G1
              go_wp2_with fail
              refine (dtStep_h G1 2 3 1 rfl rfl (by decide) h x dv rfl I.out.ok (by omega) dvb.1).mono ?_
              rintro e t5 ⟨rfl, G5'⟩
              have J := Lib.hid (oinv_step h dv I1.out)
              generalize hs : dtStep c (mput l at_ y) x dv = s at G5' J
              have G5 : Has w t5 [blkC _ w.heap.size (cfgCells c) 24, mapC _ mb av rv c, storeC _ sb sg s.1 _, dtC _ xb mb s.2] := G5'
              have X1 := Lib.hid J.out.1
              rcases J.out.2 with ⟨j1, j2, j3, j4, j5⟩ | ⟨j1, j2, j3, j4, j5, j6⟩
              · have J4 := Lib.hid j4
                have J5 := Lib.hid j5
                clear hs G5' G1 j4 j5 dcell
                go_wp2_with fail
                refine (EventD_c G5 3 rfl 0 0 0 j1 j2 j3).mono ?_
                rintro e t6 ⟨rfl, q6⟩
                have G6 := (G5.up q6).alloc (.cells #[.int .i64 0, .int .i64 0, .int .i64 0, .int .i64 0, .int .i64 0] 53)
                clear j1 j2 j3 q6
                go_wp2_with fail
                go_roundw
                case rel => exact ⟨k + 1, _, _, _, by omega, by go_num, by rw [J4.out], by rw [J5.out], X1, G6⟩
                case measure => simp [intOf]; omega
              · obtain ⟨WN, hWN⟩ : ∃ WN, (phOf x.doing + 1) % 6 = WN := ⟨_, rfl⟩
                rw [hWN] at j2 j4 j5 j6
                have J4 := Lib.hid j4
                have J5 := Lib.hid j5
                have J6 := Lib.hid j6
                clear hs G5' G1 j4 j5 j6 dcell
                obtain ⟨cy2, hcy2⟩ : ∃ cy2, s.2.cy = cy2 := ⟨_, rfl⟩
                rw [hcy2] at j3
                have HC2 := Lib.hid hcy2
                clear hcy2
                go_wp2_with fail
                refine (EventD_c G5 3 rfl 7 WN cy2 j1 j2 j3).mono ?_
                rintro e t6 ⟨rfl, q6⟩
                have G6 := (G5.up q6).alloc (.cells #[.int .i64 7, .int .i64 0, .int .i64 WN, .int .i64 cy2, .int .i64 0] 53)
                clear j1 j2 j3 q6
                have wn0 : 0 ≤ WN ∧ WN ≤ 5 := by omega
                obtain ⟨V, HV, eV⟩ := G6.name
                by_cases hw1 : WN = 1
                · have C2 : cy2 = x.cy + 1 := by
                    have := J5.out
                    rw [HC2.out, hw1] at this
                    exact this
                  have C2H := Lib.hid C2
                  have hw1b : (WN == 1) = true := by simpa using hw1
                  have HW1 := Lib.hid hw1
                  clear hw1
                  subst C2
                  go_wp2_with fail
                  refine (Cycle_q G6 3 rfl).mono ?_
                  rw [HC2.out]
                  rintro e t7 ⟨rfl, d7, rfl⟩
                  go_wp2_with fail
                  refine (Phase_q ((G6.drewN _).mAt 1 rfl h)).mono ?_
                  rintro e t8 ⟨rfl, d8, rfl⟩
                  go_wp2_with fail
                  refine (Load_h (G6.drewN _) 2 rfl 0).mono ?_
                  rw [J6.out, HC2.out]
                  rintro e t9 ⟨rfl, G9⟩
                  go_wp2_with fail
                  refine (Phase_c _ WN (by omega) (by omega) _).mono ?_
                  rintro e t10 ⟨rfl, d10, rfl⟩
                  go_wp2_with fail
                  go_roundw
                  case rel => exact ⟨k + 1, _, _, _, by omega, by go_num, by rw [J4.out], by rw [HC2.out], X1, G9.drewN _⟩
                  case measure => simp [intOf]; omega
                · have C2 : cy2 = x.cy := by
                    have hb : (WN == 1) = false := by simpa using hw1
                    have := J5.out
                    rw [HC2.out, hb] at this
                    exact this
                  have hw1b : (WN == 1) = false := by simpa using hw1
                  have HW1 := Lib.hid hw1
                  clear hw1
                  subst C2
                  go_wp2_with fail
                  refine (Cycle_q G6 3 rfl).mono ?_
                  rw [HC2.out]
                  rintro e t7 ⟨rfl, d7, rfl⟩
                  go_wp2_with fail
                  refine (Phase_q ((G6.drewN _).mAt 1 rfl h)).mono ?_
                  rintro e t8 ⟨rfl, d8, rfl⟩
                  go_wp2_with fail
                  refine (Load_h (G6.drewN _) 2 rfl 0).mono ?_
                  rw [J6.out, HC2.out]
                  rintro e t9 ⟨rfl, G9⟩
                  go_wp2_with fail
                  refine (Phase_c _ WN (by omega) (by omega) _).mono ?_
                  rintro e t10 ⟨rfl, d10, rfl⟩
                  go_wp2_with fail
                  go_roundw
                  case rel => exact ⟨k + 1, _, _, _, by omega, by go_num, by rw [J4.out], by rw [HC2.out], X1, G9.drewN _⟩
                  case measure => simp [intOf]; omega
      · have hp' : ¬ (k : Int) < (np : Int) := by omega
        go_wp2_with fail
        go_quiet (fail)
        have G1 := G.drewN 0
        have dcell := DCC.out _ _ G
        go_wp2_with fail
        refine (dtStep_h (G.drewN _) 2 3 1 rfl rfl (by decide) h x dv rfl I.out.ok (by omega) dvb.1).mono ?_
        rintro e t5 ⟨rfl, G5'⟩
        have J := Lib.hid (oinv_step h dv I.out)
        generalize hs : dtStep c l x dv = s at G5' J
        have G5 : Has w t5 [blkC _ w.heap.size (cfgCells c) 24, mapC _ mb av rv c, storeC _ sb sg s.1 _, dtC _ xb mb s.2] := G5'
        have X1 := Lib.hid J.out.1
        rcases J.out.2 with ⟨j1, j2, j3, j4, j5⟩ | ⟨j1, j2, j3, j4, j5, j6⟩
        · have J4 := Lib.hid j4
          have J5 := Lib.hid j5
          clear hs G5' G1 j4 j5 dcell
          go_wp2_with fail
          refine (EventD_c G5 3 rfl 0 0 0 j1 j2 j3).mono ?_
          rintro e t6 ⟨rfl, q6⟩
          have G6 := (G5.up q6).alloc (.cells #[.int .i64 0, .int .i64 0, .int .i64 0, .int .i64 0, .int .i64 0] 53)
          clear j1 j2 j3 q6
          go_wp2_with fail
          go_roundw
          case rel => exact ⟨k + 1, _, _, _, by omega, by go_num, by rw [J4.out], by rw [J5.out], X1, G6⟩
          case measure => simp [intOf]; omega
        · obtain ⟨WN, hWN⟩ : ∃ WN, (phOf x.doing + 1) % 6 = WN := ⟨_, rfl⟩
          rw [hWN] at j2 j4 j5 j6
          have J4 := Lib.hid j4
          have J5 := Lib.hid j5
          have J6 := Lib.hid j6
          clear hs G5' G1 j4 j5 j6 dcell
          obtain ⟨cy2, hcy2⟩ : ∃ cy2, s.2.cy = cy2 := ⟨_, rfl⟩
          rw [hcy2] at j3
          have HC2 := Lib.hid hcy2
          clear hcy2
          go_wp2_with fail
          refine (EventD_c G5 3 rfl 7 WN cy2 j1 j2 j3).mono ?_
          rintro e t6 ⟨rfl, q6⟩
          have G6 := (G5.up q6).alloc (.cells #[.int .i64 7, .int .i64 0, .int .i64 WN, .int .i64 cy2, .int .i64 0] 53)
          clear j1 j2 j3 q6
          have wn0 : 0 ≤ WN ∧ WN ≤ 5 := by omega
          obtain ⟨V, HV, eV⟩ := G6.name
          by_cases hw1 : WN = 1
          · have C2 : cy2 = x.cy + 1 := by
              have := J5.out
              rw [HC2.out, hw1] at this
              exact this
            have C2H := Lib.hid C2
            have hw1b : (WN == 1) = true := by simpa using hw1
            have HW1 := Lib.hid hw1
            clear hw1
            subst C2
            go_wp2_with fail
            refine (Cycle_q G6 3 rfl).mono ?_
            rw [HC2.out]
            rintro e t7 ⟨rfl, d7, rfl⟩
            go_wp2_with fail
            refine (Phase_q ((G6.drewN _).mAt 1 rfl h)).mono ?_
            rintro e t8 ⟨rfl, d8, rfl⟩
            go_wp2_with fail
            refine (Load_h (G6.drewN _) 2 rfl 0).mono ?_
            rw [J6.out, HC2.out]
            rintro e t9 ⟨rfl, G9⟩
            go_wp2_with fail
            refine (Phase_c _ WN (by omega) (by omega) _).mono ?_
            rintro e t10 ⟨rfl, d10, rfl⟩
            go_wp2_with fail
            go_roundw
            case rel => exact ⟨k + 1, _, _, _, by omega, by go_num, by rw [J4.out], by rw [HC2.out], X1, G9.drewN _⟩
            case measure => simp [intOf]; omega
          · have C2 : cy2 = x.cy := by
              have hb : (WN == 1) = false := by simpa using hw1
              have := J5.out
              rw [HC2.out, hb] at this
              exact this
            have hw1b : (WN == 1) = false := by simpa using hw1
            have HW1 := Lib.hid hw1
            clear hw1
            subst C2
            go_wp2_with fail
            refine (Cycle_q G6 3 rfl).mono ?_
            rw [HC2.out]
            rintro e t7 ⟨rfl, d7, rfl⟩
            go_wp2_with fail
            refine (Phase_q ((G6.drewN _).mAt 1 rfl h)).mono ?_
            rintro e t8 ⟨rfl, d8, rfl⟩
            go_wp2_with fail
            refine (Load_h (G6.drewN _) 2 rfl 0).mono ?_
            rw [J6.out, HC2.out]
            rintro e t9 ⟨rfl, G9⟩
            go_wp2_with fail
            refine (Phase_c _ WN (by omega) (by omega) _).mono ?_
            rintro e t10 ⟨rfl, d10, rfl⟩
            go_wp2_with fail
            go_roundw
            case rel => exact ⟨k + 1, _, _, _, by omega, by go_num, by rw [J4.out], by rw [HC2.out], X1, G9.drewN _⟩
            case measure => simp [intOf]; omega
    · have hge : ¬ (k : Int) < (np : Int) + 20 := by omega
      go_wp2_with fail
      go_ret
      exact ⟨rfl, G.below⟩

theorem walk_DetectorOrder (c0 c1 c2 c3 c4 mr mu dq ch bf rt sw : Int) (da : Option Addr) (nd dc : Nat) (zs : List Int) (pa : Option Addr) (pl pc np : Nat) (w : World) (hr : IsRow .u8 w da nd dc zs) (hp : IsRows [.int .i64, .int .u64] w (.slice pa pl pc) np) :
    Calls Try.prog 5 #[.agg #[.int .i64 c0, .int .i64 c1, .int .i64 c2, .int .i64 c3, .int .i64 c4, .int .i64 mr, .int .i64 mu, .int .i64 dq, .int .i64 ch, .int .i64 bf, .int .i64 rt, .int .i64 sw], .slice da nd dc, .slice pa pl pc] w fun e w' => e = .returned (.bool true) ∧ Below w.heap.size w w' := by
  obtain rfl : pl = np := by
    rcases hp with ⟨h, h0⟩ | ⟨y, c, h, _⟩
    · cases h; exact h0.symm
    · cases h; rfl
  by_cases hh : (100 : Int) < (pl : Int) ∨ nd = 0 ∨ (60 : Int) < (nd : Int)
  · exact order_big ⟨c0, c1, c2, c3, c4, mr, mu, dq, ch, bf, rt, sw⟩ da nd dc pa pl pc w hh
  · obtain ⟨l, hl, hsl, hwf⟩ := row_opens hr
    exact order_ok ⟨c0, c1, c2, c3, c4, mr, mu, dq, ch, bf, rt, sw⟩ da nd dc l pa pl pc w hsl hl (fun x hx => by have := Go.bounds_u8 (hwf x hx); omega) hp (by omega) (by omega) (by omega)

end Go.Proofs.Ytgodnmcfbbchoaa
