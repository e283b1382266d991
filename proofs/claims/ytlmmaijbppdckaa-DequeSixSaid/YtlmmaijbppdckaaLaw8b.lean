/- The walk of DequeSix: it answers true, and nothing that was there is changed. No condition but that the arguments can be read. -/
import Derived.Test.YtlmmaijbppdckaaBeg8
import Derived.Test.YtlmmaijbppdckaaRef6H
set_option linter.unusedVariables false
set_option linter.unusedSimpArgs false
namespace Go.Proofs.Ytlmmaijbppdckaa
open Go.ChangeShapes Go.WideShapes Go.ChangeAt Go.RowKit

/-- What holds behind so many steps. -/
structure Six (N i : Nat) (l : List Int) (m : Dq) : Prop where
  len : l.length = N
  ws : Wds l
  ok : DqOk m
  rk : dqRank m ≤ 6 - i
  out : OutOk m
theorem six_0 (k x : Int) (l : List Int) (x0 : 0 ≤ x) (x1 : x < 18446744073709551616) (hw : Wds l) : Six l.length 0 l (kindM k x) := by
  have z : (0 : Int) ≤ 0 ∧ (0 : Int) < 18446744073709551616 := by decide
  unfold kindM
  split
  · exact ⟨rfl, hw, ⟨Nat.le_of_ble_eq_true rfl, z, z, ⟨x0, x1⟩⟩, (by show 4 ≤ 6; decide), fun h => by cases h⟩
  · split
    · exact ⟨rfl, hw, ⟨Nat.le_of_ble_eq_true rfl, z, z, z⟩, (by show 6 ≤ 6; decide), fun h => by cases h⟩
    · exact ⟨rfl, hw, ⟨Nat.le_of_ble_eq_true rfl, z, z, z⟩, (by show 4 ≤ 6; decide), fun h => by cases h⟩
theorem six_step {N i : Nat} {l : List Int} {m : Dq} (e : En) (I : Six N i l m) : Six N (i + 1) (dqStep e l m).1 (dqStep e l m).2 := by
  have h1 := dq_ok e I.ws I.ok
  have h2 := dq_rank e l m
  exact ⟨(dq_len e l m).trans I.len, h1.1, h1.2, by have := I.rk; omega, dq_out e l m I.out⟩
theorem six_put {N i : Nat} {l : List Int} {m : Dq} (I : Six N i l m) (p v : Int) (h0 : 0 ≤ v) (h1 : v < 18446744073709551616) : Six N i (mput l p v) m :=
  ⟨(mput_length _ _ _).trans I.len, wds_mput I.ws p v ⟨h0, h1⟩, I.ok, I.rk, I.out⟩
theorem six_end {N : Nat} {l : List Int} {m : Dq} (I : Six N 6 l m) : m.st = 0 ∧ 1 ≤ m.out ∧ m.out ≤ 4 := by
  have h := dq_done (m := m) (by have := I.rk; omega) I.ok.st
  exact ⟨h, I.out h⟩
theorem step_end (e : En) (l : List Int) (m : Dq) (h : m.st = 0) : dqStep e l m = (l, m) := by
  obtain ⟨st, b, t, w, o, won⟩ := m
  dsimp only at h
  subst h; rfl

set_option maxRecDepth 100000 in
theorem six_other (l : List Int) (a : Option Addr) (cap : Nat) (e : En) (k x : Int) (pa : Option Addr) (np pc : Nat) (w : World) (h : (60 : Int) < (l.length : Int) ∨ (12 : Int) < (np : Int) ∨ 1000 < e.entry ∨ e.entry < -1000 ∨ 1000 < e.room) :
    Calls Try.prog 7 #[.slice a l.length cap, .agg #[.int .i64 e.top, .int .i64 e.bottom, .int .i64 e.entry, .int .i64 e.room], .int .u8 k, .int .u64 x, .slice pa np pc] w fun r w' => r = .returned (.bool true) ∧ Below w.heap.size w w' := by
  have H0 := (Has.nil w).blkNew #[.int .i64 e.top, .int .i64 e.bottom, .int .i64 e.entry, .int .i64 e.room] 25
  by_cases h1 : (60 : Int) < (l.length : Int)
  · clear h
    have H0 := H0
    go_enter Try.func7, Try.ntmps7
    go_wp2_with fail
    refine (awake8 _).mono ?_
    rintro r w1 ⟨rfl, q1⟩
    have H1 := H0.up q1
    obtain ⟨b0, b1, b2, b3, fb⟩ := row4 (H1.get 0 rfl)
    go_wp2_with fail
    go_ret
    exact ⟨rfl, H1.below⟩
  have h := h.resolve_left h1
  have g1 : decide ((60 : Int) < (l.length : Int)) = false := by simpa using h1
  by_cases h2 : (12 : Int) < (np : Int)
  · clear h
    have H0 := H0
    go_enter Try.func7, Try.ntmps7
    go_wp2_with fail
    refine (awake8 _).mono ?_
    rintro r w1 ⟨rfl, q1⟩
    have H1 := H0.up q1
    obtain ⟨b0, b1, b2, b3, fb⟩ := row4 (H1.get 0 rfl)
    go_wp2_with fail
    go_ret
    exact ⟨rfl, H1.below⟩
  have h := h.resolve_left h2
  have g2 : decide ((12 : Int) < (np : Int)) = false := by simpa using h2
  by_cases h3 : 1000 < e.entry
  · clear h
    have H0 := H0
    go_enter Try.func7, Try.ntmps7
    go_wp2_with fail
    refine (awake8 _).mono ?_
    rintro r w1 ⟨rfl, q1⟩
    have H1 := H0.up q1
    obtain ⟨b0, b1, b2, b3, fb⟩ := row4 (H1.get 0 rfl)
    go_wp2_with fail
    go_ret
    exact ⟨rfl, H1.below⟩
  have h := h.resolve_left h3
  have g3 : decide (1000 < e.entry) = false := by simpa using h3
  by_cases h4 : e.entry < -1000
  · clear h
    have H0 := H0
    go_enter Try.func7, Try.ntmps7
    go_wp2_with fail
    refine (awake8 _).mono ?_
    rintro r w1 ⟨rfl, q1⟩
    have H1 := H0.up q1
    obtain ⟨b0, b1, b2, b3, fb⟩ := row4 (H1.get 0 rfl)
    go_wp2_with fail
    go_ret
    exact ⟨rfl, H1.below⟩
  have h := h.resolve_left h4
  have g4 : decide (e.entry < -1000) = false := by simpa using h4
  have H0 := H0
  go_enter Try.func7, Try.ntmps7
  go_wp2_with fail
  refine (awake8 _).mono ?_
  rintro r w1 ⟨rfl, q1⟩
  have H1 := H0.up q1
  obtain ⟨b0, b1, b2, b3, fb⟩ := row4 (H1.get 0 rfl)
  go_wp2_with fail
  go_ret
  exact ⟨rfl, H1.below⟩

set_option maxRecDepth 100000 in
set_option maxHeartbeats 8000000 in
theorem six_ok (l : List Int) (a : Option Addr) (cap : Nat) (e : En) (k x : Int) (pa : Option Addr) (np pc : Nat) (w : World) (hsl : Sl w [] .u64 (.slice a l.length cap) l) (hws : Wds l) (ok : EnOk e) (k0 : 0 ≤ k) (x0 : 0 ≤ x) (x1 : x < 18446744073709551616) (hrow : IsRows [.int .i64, .int .u64] w (.slice pa np pc) np) (h1 : ¬ (60 : Int) < (l.length : Int)) (h2 : ¬ (12 : Int) < (np : Int)) :
    Calls Try.prog 7 #[.slice a l.length cap, .agg #[.int .i64 e.top, .int .i64 e.bottom, .int .i64 e.entry, .int .i64 e.room], .int .u8 k, .int .u64 x, .slice pa np pc] w fun r w' => r = .returned (.bool true) ∧ Below w.heap.size w w' := by
  have HSL := Lib.hid hsl
  have HWS := Lib.hid hws
  have ROW := Lib.hid hrow
  have OK := Lib.hid ok
  have g1 : decide ((60 : Int) < (l.length : Int)) = false := by simpa using h1
  have g2 : decide ((12 : Int) < (np : Int)) = false := by simpa using h2
  have g3 : decide (1000 < e.entry) = false := by have := ok.hi; simp; omega
  have g4 : decide (e.entry < -1000) = false := by have := ok.lo; simp; omega
  have g5 : decide (1000 < e.room) = false := by have := ok.room; simp; omega
  clear hsl hws hrow ok
  have H0 := (Has.nil w).blkNew #[.int .i64 e.top, .int .i64 e.bottom, .int .i64 e.entry, .int .i64 e.room] 25
  go_enter Try.func7, Try.ntmps7
  go_wp2_with fail
  refine (awake8 _).mono ?_
  rintro r w1 ⟨rfl, q1⟩
  have H1 := (H0.up q1)
  obtain ⟨b0, b1, b2, b3, fb⟩ := row4 (H1.get 0 rfl)
  clear H0 q1
  go_wp2_with fail
  refine (begun8_h H1 e k x k0).mono ?_
  rintro r w2 ⟨xb, kd, xw, rfl, H2⟩
  clear b0 b1 b2 b3 fb
  obtain ⟨b0, b1, b2, b3, fb⟩ := row4 (H2.get 0 rfl)
  go_wp2_with fail
  have H3 := (H2.alloc (.cells #[.int .i64 kd, .int .i64 1, .int .i64 e.top, .int .i64 e.bottom, .int .i64 e.entry, .int .i64 e.room, .int .u64 0, .int .u64 0, .int .u64 xw, .bool false, .int .i64 0] 47)).addSl HSL.out
  refine (New_h H3 _ l (sl_weak (H3.sl 2 rfl) (by simp)) (by omega)).mono ?_
  rintro r w3 ⟨sb, sg, rfl, H4'⟩
  have H4 := H4'.pick [0, 1, 3] (by decide) (by simp)
  clear H1 H2 H3 H4' b0 b1 b2 b3 fb
  go_wp2_with fail
  have I0 := Lib.hid (six_0 k x l x0 x1 HWS.out)
  go_loopw [15] (fun iv wr => ∃ (i : Nat) (s : List Int) (n : Int) (m : Dq), i ≤ 6 ∧ iv = .int .i64 i ∧ Hid (Six l.length i s m) ∧ Has w wr [blkC _ w.heap.size #[.int .i64 e.top, .int .i64 e.bottom, .int .i64 e.entry, .int .i64 e.room] 25, dqC _ xb e m, storeC _ sb sg s n]) (fun iv _ => 7 - (intOf iv).toNat)
  case atStart => exact ⟨0, l, 0, _, by omega, rfl, I0, H4⟩
  case round =>
    obtain ⟨i, s, n, m, hi, rfl, I, G⟩ := hrel
    clear H4 I0
    by_cases hlt : i < 6
    · have hlt' : (i : Int) < 6 := by omega
      go_wp2_with fail
      refine (dqStep_h G 2 1 rfl (by decide) m rfl OK.out I.out.ok).mono ?_
      rintro r v1 ⟨rfl, G1'⟩
      have G1 : Has w v1 [blkC _ w.heap.size #[.int .i64 e.top, .int .i64 e.bottom, .int .i64 e.entry, .int .i64 e.room] 25, dqC _ xb e (dqStep e s m).2, storeC _ sb sg (dqStep e s m).1 (dqCount m n)] := G1'
      have I1 := Lib.hid (six_step e I.out)
      clear G1' G
      by_cases hp : i < np
      · have hp' : (i : Int) < (np : Int) := by omega
        obtain ⟨pb, poff, pcap, hpv, hpb, hrows⟩ := rows_at ROW.out (by omega) (by decide)
        simp only [Value.slice.injEq] at hpv
        obtain ⟨rfl, -, rfl⟩ := hpv
        obtain ⟨vs, hsc, hcl⟩ := hrows i hp
        obtain ⟨p0, p1, rfl, ⟨at_, rfl, w0'⟩, ⟨y, rfl, w1'⟩⟩ := scal2 hsc
        have yb := Go.bounds_u64 w1'
        have YB : Hid (0 ≤ y ∧ y < 18446744073709551616) := Lib.hid (by omega)
        have d0 : v1.cell? ⟨pb, poff + i * 2, none⟩ = some (.int .i64 at_) := (G1.below.cell (p := ⟨pb, poff + i * 2, none⟩) hpb).trans (hcl 0 (by decide))
        have d1 : v1.cell? ⟨pb, poff + i * 2 + 1, none⟩ = some (.int .u64 y) := (G1.below.cell (p := ⟨pb, poff + i * 2 + 1, none⟩) hpb).trans (hcl 1 (by decide))
        have hcl0 := Lib.hid (hcl 0 (by decide))
        have hcl1 := Lib.hid (hcl 1 (by decide))
        have hpb' := Lib.hid hpb
        clear hrows hsc hcl hpb yb w0' w1'
        go_wp2_with fail
        go_region_held3 (fun w' => w'.cell? ⟨pb, poff + i * 2, none⟩ = some (.int .i64 at_) ∧ w'.cell? ⟨pb, poff + i * 2 + 1, none⟩ = some (.int .u64 y)) (refine ⟨?_, ?_⟩ <;> (first | (with_reducible assumption) | (simp only [cell_drewN8, cell_drew8]; with_reducible assumption))) (first | (go_at_call 18; refine (Put_h (by first | exact G1 | exact G1.drewN _) 2 rfl at_ y).mono ?_; rintro r v2 ⟨rfl, G2'⟩; have E0 : v2.cell? ⟨pb, poff + i * 2, none⟩ = some (.int .i64 at_) := (G2'.below.cell (p := ⟨pb, poff + i * 2, none⟩) hpb'.out).trans hcl0.out; have E1 : v2.cell? ⟨pb, poff + i * 2 + 1, none⟩ = some (.int .u64 y) := (G2'.below.cell (p := ⟨pb, poff + i * 2 + 1, none⟩) hpb'.out).trans hcl1.out))
        go_wp2_with fail
        have I2 := Lib.hid (six_put I1.out at_ y YB.out.1 YB.out.2)
        go_roundw
        case rel => exact ⟨i + 1, _, _, _, by omega, by go_num, I2, (by first | exact G2' | exact G2'.drew | exact G2'.drewN _)⟩
        case measure => simp [intOf]; omega
      · have hp' : ¬ (i : Int) < (np : Int) := by omega
        go_wp2_with fail
        go_roundw
        case rel => exact ⟨i + 1, _, _, _, by omega, by go_num, I1, G1⟩
        case measure => simp [intOf]; omega
    · have hge : ¬ (i : Int) < 6 := by omega
      obtain rfl : i = 6 := by omega
      obtain ⟨z0, z1, z2⟩ := six_end I.out
      have Z0 := Lib.hid z0
      have SE := Lib.hid (step_end e s m z0)
      have DO : Hid (dqOut m = m.out ∧ dqW m = m.w) := Lib.hid (by unfold dqOut dqW; rw [z0]; exact ⟨rfl, rfl⟩)
      have hl12 : Hid (s.length < 1000000000000) := Lib.hid (by rw [I.out.len]; omega)
      clear z0
      go_wp2_with fail
      refine (Result_q G 1 m rfl I.out.ok.st).mono ?_
      rw [DO.out.1, DO.out.2]
      rintro r v1 ⟨rfl, d1, rfl⟩
      generalize m.out = O at z1 z2 ⊢
      go_wp2_with fail
      refine (All_h (G.drewN _) 2 rfl hl12.out).mono ?_
      rintro r v2 ⟨sv, rfl, G2⟩
      go_wp2_with fail
      refine (dqStep_h G2 2 1 rfl (by decide) m rfl OK.out I.out.ok).mono ?_
      rw [SE.out]
      dsimp only
      rw [Z0.out]
      rintro r v3 ⟨rfl, G3'⟩
      have hq : (true) = true := rfl
      go_wp2_with fail
      refine (All_h G3' 2 rfl hl12.out).mono ?_
      rintro r v4 ⟨sv2, rfl, G4⟩
      go_wp2_with fail
      refine (RSame_h G4 4 rfl 3 rfl hl12.out).mono ?_
      rintro r v5 ⟨rfl, d5, rfl⟩
      have hss : (s == s) = true := by simp
      go_wp2_with fail
      go_ret
      exact ⟨by simp, (G4.drewN _).below⟩

theorem walk_DequeSix (a : Option Addr) (len cap : Nat) (zs : List Int) (e0 e1 e2 e3 k x : Int) (pa : Option Addr) (pl pc np : Nat) (w : World) (hr : IsRow .u64 w a len cap zs) (hp : IsRows [.int .i64, .int .u64] w (.slice pa pl pc) np) (k0 : 0 ≤ k) (x0 : 0 ≤ x) (x1 : x < 18446744073709551616) (r0 : -9223372036854775808 ≤ e3) :
    Calls Try.prog 7 #[.slice a len cap, .agg #[.int .i64 e0, .int .i64 e1, .int .i64 e2, .int .i64 e3], .int .u8 k, .int .u64 x, .slice pa pl pc] w fun r w' => r = .returned (.bool true) ∧ Below w.heap.size w w' := by
  obtain rfl : pl = np := by
    rcases hp with ⟨h, h0⟩ | ⟨y, c, h, _⟩
    · cases h; exact h0.symm
    · cases h; rfl
  obtain ⟨l, rfl, hsl, hwf⟩ := row_opens hr
  by_cases h : (60 : Int) < (l.length : Int) ∨ (12 : Int) < (pl : Int) ∨ 1000 < e2 ∨ e2 < -1000 ∨ 1000 < e3
  · exact six_other l a cap ⟨e0, e1, e2, e3⟩ k x pa pl pc w h
  · exact six_ok l a cap ⟨e0, e1, e2, e3⟩ k x pa pl pc w hsl (fun y hy => by have := Go.bounds_u64 (hwf y hy); omega) ⟨by show -1000 ≤ e2; omega, by show e2 ≤ 1000; omega, by show e3 ≤ 1000; omega, r0⟩ k0 x0 x1 hp (by omega) (by omega)

end Go.Proofs.Ytlmmaijbppdckaa
