/- The walk of DequeThieves: it answers true, and nothing that was there is changed. No condition but that the arguments can be read. -/
import Derived.Test.YtlmmaijbppdckaaTh8p
set_option linter.unusedVariables false
set_option linter.unusedSimpArgs false
namespace Go.Proofs.Ytlmmaijbppdckaa
open Go.ChangeShapes Go.WideShapes Go.ChangeAt Go.RowKit

theorem en8_ok : EnOk (en 8) := ⟨by decide, by decide, by decide, by decide⟩
section
variable {w0 w : World} {cs : List (Chunk w0.heap.size)} (H : Has w0 w cs)
include H
theorem Push_8 (x : Int) : Calls Try.prog 11 #[.agg #[.int .i64 0, .int .i64 1, .int .i64 2, .int .i64 8], .int .u64 x] w fun r w' => ∃ xb, r = .returned (.pointer (some ⟨xb, 0, none⟩)) ∧ Has w0 w' (cs ++ [dqC _ xb (en 8) (dqPush x)]) := Push_h H (en 8) x
theorem Steal_8 : Calls Try.prog 13 #[.agg #[.int .i64 0, .int .i64 1, .int .i64 2, .int .i64 8]] w fun r w' => ∃ xb, r = .returned (.pointer (some ⟨xb, 0, none⟩)) ∧ Has w0 w' (cs ++ [dqC _ xb (en 8) dqSteal]) := Steal_h H (en 8)
end
theorem alloc_cell8 {w : World} {b o : Nat} {u : Value} (ob : Obj) (hb : b < w.heap.size) (h : w.cell? ⟨b, o, none⟩ = some u) : (w.alloc ob).cell? ⟨b, o, none⟩ = some u := by
  rw [((Below.refl w.heap.size w).alloc (Nat.le_refl _) ob).cell (p := ⟨b, o, none⟩) hb]; exact h
theorem fits8 : Fits 8 0 := ⟨by decide, by decide, by decide, by decide, .inr rfl⟩

/-- The pushes ahead: i of them. -/
structure Psh (i : Nat) (l : List Int) : Prop where
  rep : Rep 8 0 l 0 (ups i)
  ws : Wds l
theorem psh_0 : Psh 0 (List.replicate 10 0) := ⟨⟨rfl, by rw [wu_eq]; rfl, by rw [wu_eq]; rfl, by decide, (fun i x h => by cases h)⟩, fun x hx => by have := (List.mem_replicate.1 hx).2; omega⟩
theorem psh_step {i : Nat} {l : List Int} (h : Psh i l) (hi : i < 7) : ∃ s, dqRun (en 8) 8 (l, dqPush ((i : Int) + 1)) = s ∧ Psh (i + 1) s.1 := by
  obtain ⟨s, e, _, hr⟩ := (rep_push fits8 h.rep (by omega) ((i : Int) + 1)).2 (by rw [ups_len]; omega)
  have := dqRun_ok (en 8) 8 l (dqPush ((i : Int) + 1)) h.ws (push_ok8 _ (by omega) (by omega))
  rw [e] at this
  exact ⟨s, e, hr, this.1⟩

theorem thieves_big (v : Int) (pa : Option Addr) (np pc : Nat) (w : World) (v0 : 0 ≤ v) (v1 : v < 256) (h1 : (400 : Int) < (np : Int)) :
    Calls Try.prog 5 #[.int .u8 v, .slice pa np pc] w fun r w' => r = .returned (.bool true) ∧ Below w.heap.size w w' := by
  have n0 := Int.emod_nonneg v (by omega : (8 : Int) ≠ 0)
  have n1 := Int.emod_lt_of_pos v (by omega : (0 : Int) < 8)
  have e2 : v.tmod 8 = v % 8 := Int.tmod_eq_emod_of_nonneg v0
  go_enter Try.func5, Try.ntmps5
  go_wp2_with fail
  refine (awake8 _).mono ?_
  rintro r w0 ⟨rfl, q0⟩
  go_wp2_with fail
  go_ret
  exact ⟨rfl, q0⟩

set_option maxRecDepth 100000 in
set_option maxHeartbeats 16000000 in
theorem thieves_ok (v : Int) (pa : Option Addr) (pc : Nat) (pks : List Int) (w : World) (hsl : Sl w [] .u8 (.slice pa pks.length pc) pks) (hws : ∀ x ∈ pks, 0 ≤ x ∧ x < 256) (v0 : 0 ≤ v) (v1 : v < 256) (h1 : ¬ (400 : Int) < (pks.length : Int)) :
    Calls Try.prog 5 #[.int .u8 v, .slice pa pks.length pc] w fun r w' => r = .returned (.bool true) ∧ Below w.heap.size w w' := by
  have HSL := Lib.hid hsl
  have HWS := Lib.hid hws
  have n0 := Int.emod_nonneg v (by omega : (8 : Int) ≠ 0)
  have n1 := Int.emod_lt_of_pos v (by omega : (0 : Int) < 8)
  have e2 : v.tmod 8 = v % 8 := Int.tmod_eq_emod_of_nonneg v0
  clear hsl hws
  obtain ⟨k, hk⟩ : ∃ k : Nat, v % 8 = (k : Int) := ⟨(v % 8).toNat, by omega⟩
  have k7 : k ≤ 7 := by omega
  rw [hk] at e2
  clear n0 n1 hk
  go_enter Try.func5, Try.ntmps5
  go_wp2_with fail
  refine (awake8 _).mono ?_
  rintro r w0 ⟨rfl, q0⟩
  have G0 := (((Has.nil w).up q0).addSl HSL.out).blkNew #[.int .i64 0, .int .i64 1, .int .i64 2, .int .i64 8] 25
  obtain ⟨eb, heb⟩ : ∃ eb, eb = w0.heap.size := ⟨_, rfl⟩
  rw [← heb] at G0
  have HEB := Lib.hid heb
  clear q0 heb
  go_wp2_with (at_make; refine wpl_mk G0 rfl _ _ rfl el_u648 rfl (by decide) 10 rfl rfl (by decide) ?_; intro w1 G1)
  have z1 : ∀ (w : World) o, (w.alloc o).heap.size = w.heap.size + 1 := fun w o => by simp
  rw [ownN_rep8, z1] at G1
  clear z1
  refine (New_h G1 _ (List.replicate 10 0) (sl_of_ownN (G1.get 2 rfl)) (by decide)).mono ?_
  rintro r w2 ⟨sb, sg, rfl, G2'⟩
  have G2 := G2'.pick [0, 1, 3] (by decide) (by simp)
  clear G0 G1 G2'
  rw [← HEB.out]
  go_wp2_with fail
  have I0 := Lib.hid psh_0
  go_loopw [9] (fun iv wr => ∃ (i : Nat) (l : List Int) (n1 : Int), i ≤ k ∧ iv = .int .i64 i ∧ Hid (Psh i l) ∧ Has w wr [slC _ .u8 (.slice pa pks.length pc) pks, blkC _ eb #[.int .i64 0, .int .i64 1, .int .i64 2, .int .i64 8] 25, storeC _ sb sg l n1]) (fun iv _ => 9 - (intOf iv).toNat)
  case atStart => exact ⟨0, _, _, by omega, rfl, I0, G2⟩
  case round =>
    obtain ⟨i, l, n1, hi, rfl, I, G⟩ := hrel
    clear G2 I0
    by_cases hlt : i < k
    · have hlt' : (i : Int) < (k : Int) := by omega
      obtain ⟨b0, b1, b2, b3, fb⟩ := row4 (G.get 1 rfl)
      obtain ⟨s', he, hp⟩ := psh_step I.out (by omega)
      have HE := Lib.hid he
      have HP := Lib.hid hp
      clear he hp
      go_wp2_with fail
      refine (Push_8 G _).mono ?_
      rintro r v1 ⟨x1, rfl, K1'⟩
      have K1 : Has w v1 [slC _ .u8 (.slice pa pks.length pc) pks, blkC _ eb #[.int .i64 0, .int .i64 1, .int .i64 2, .int .i64 8] 25, storeC _ sb sg l n1, dqC _ x1 (en 8) (dqPush ((i : Int) + 1))] := K1'
      clear b0 b1 b2 b3 fb K1' G
      go_wp2_with fail
      refine (whole_h K1 2 3 rfl (by decide) rfl en8_ok (push_ok8 _ (by omega) (by omega)) I.out.ws).mono ?_
      rw [HE.out]
      rintro r v3 ⟨n3, rfl, K3'⟩
      have K3'' : Has w v3 [slC _ .u8 (.slice pa pks.length pc) pks, blkC _ eb #[.int .i64 0, .int .i64 1, .int .i64 2, .int .i64 8] 25, storeC _ sb sg s'.1 n3, dqC _ x1 (en 8) s'.2] := K3'
      have K3 := K3''.pick [0, 1, 2] (by decide) (by simp)
      clear K1 K3' K3''
      go_wp2_with fail
      go_roundw
      case rel => exact ⟨i + 1, _, _, by omega, by go_num, HP, K3⟩
      case measure => simp [intOf]; omega
    · have hge : ¬ (i : Int) < (k : Int) := by omega
      obtain rfl : k = i := by omega
      have L0 : Hid (ThL k 0 l) := Lib.hid (thl_of k7 I.out.rep I.out.ws)
      clear I hi hlt
      go_wp2_with fail
      obtain ⟨b0, b1, b2, b3, fb⟩ := row4 (G.get 1 rfl)
      go_region_held3 (fun w' => w'.cell? ⟨eb, 0, none⟩ = some (.int .i64 0) ∧ w'.cell? ⟨eb, 1, none⟩ = some (.int .i64 1) ∧ w'.cell? ⟨eb, 2, none⟩ = some (.int .i64 2) ∧ w'.cell? ⟨eb, 3, none⟩ = some (.int .i64 8)) (refine ⟨?_, ?_, ?_, ?_⟩ <;> (first | (with_reducible assumption) | (simp only [cell_drewN8, cell_drew8]; with_reducible assumption) | (exact alloc_cell8 _ HEB3 (by with_reducible assumption)))) (first | (go_at_call 13; (first | refine (Steal_8 K2).mono ?_ | refine (Steal_8 (K2.drewN _)).mono ?_); rintro r x3 ⟨t2, rfl, K3⟩; have HEB3 : eb < x3.heap.size := (K3.lt 1 _ rfl eb (by simp [blkC])).1; obtain ⟨e0, e1, e3, e4, fe⟩ := row4 (K3.get 1 rfl)) | (go_at_call 13; (first | refine (Steal_8 K1).mono ?_ | refine (Steal_8 (K1.drewN _)).mono ?_); rintro r x2 ⟨t1, rfl, K2⟩; obtain ⟨d0, d1, d2, d3, fd⟩ := row4 (K2.get 1 rfl)) | (go_at_call 13; (first | refine (Steal_8 G).mono ?_ | refine (Steal_8 (G.drewN _)).mono ?_); rintro r x1 ⟨t0, rfl, K1⟩; obtain ⟨c0, c1, c2, c3, fc⟩ := row4 (K1.get 1 rfl)))
      -- LOOP
      have G4' := K3.blkNew #[.pointer (some ⟨t0, 0, none⟩), .pointer (some ⟨t1, 0, none⟩), .pointer (some ⟨t2, 0, none⟩)] 32
      have G4 := G4'.pick [0, 1, 2, 6, 3, 4, 5] (by decide) (by simp)
      obtain ⟨tb, htb⟩ : ∃ tb, tb = x3.heap.size := ⟨_, rfl⟩
      rw [← htb] at G4
      rw [← htb]
      clear G4' G K1 K2 K3 htb HEB3 b0 b1 b2 b3 fb c0 c1 c2 c3 fc d0 d1 d2 d3 fd e0 e1 e3 e4 fe
      go_wp2_with fail
      have I0 := Lib.hid (thv_0 (np := pks.length) L0.out)
      go_loopw [11, 12, 13, 14, 15] (fun nv iv u13 u14 u15 wr => ∃ (i T : Nat) (l : List Int) (n1 : Int) (m0 m1 m2 : Dq) (p0 p1 p2 : Nat), i ≤ pks.length + 200 ∧ iv = .int .i64 i ∧ nv = .int .u64 ((T : Int) + 1) ∧ Hid (T ≤ 7) ∧ Hid (Thv k pks.length i T l m0 m1 m2) ∧ Has w wr [slC _ .u8 (.slice pa pks.length pc) pks, blkC _ eb #[.int .i64 0, .int .i64 1, .int .i64 2, .int .i64 8] 25, storeC _ sb sg l n1, blkC _ tb #[.pointer (some ⟨p0, 0, none⟩), .pointer (some ⟨p1, 0, none⟩), .pointer (some ⟨p2, 0, none⟩)] 32, dqC _ p0 (en 8) m0, dqC _ p1 (en 8) m1, dqC _ p2 (en 8) m2]) (fun _ iv _ _ _ _ => 700 - (intOf iv).toNat)
      case atStart => exact ⟨0, 0, _, _, _, _, _, t0, t1, t2, by omega, rfl, rfl, Lib.hid (by omega), I0, G4⟩
      case round =>
      obtain ⟨i, T, l, n1, m0, m1, m2, p0, p1, p2, hi, rfl, rfl, HT, I, G⟩ := hrel
      clear G4 I0 L0
      by_cases hlt : i < pks.length + 200
      · have hlt' : (i : Int) < (pks.length : Int) + 200 := by omega
        obtain ⟨y0, y1, y2, fy⟩ := row3 (G.get 3 rfl)
        by_cases hp : i < pks.length
        · have hp' : (i : Int) < (pks.length : Int) := by omega
          obtain ⟨x, hx⟩ := el_get8 pks i hp
          have hxb := HWS.out x (List.mem_of_getElem? hx)
          have hne : pks ≠ [] := by rintro rfl; simp at hp
          obtain ⟨cb, off, hab, -, -, hcell⟩ := sl_at (G.sl 0 rfl) hne
          subst hab
          have hc := hcell i _ hx
          clear hcell hne hx
          obtain ⟨X, hX⟩ : ∃ X, x.tmod 3 = X := ⟨_, rfl⟩
          have hX3 : X = 0 ∨ X = 1 ∨ X = 2 := by rw [Int.tmod_eq_emod_of_nonneg hxb.1] at hX; omega
          rcases hX3 with rfl | rfl | rfl
          · have J := Lib.hid (thv_step0 I.out)
            have MO := Lib.hid I.out.a0.ok
            have le7 := HT.out
            clear I
            go_wp2_with fail
            refine (dqStep_h G 2 4 rfl (by decide) m0 rfl en8_ok MO.out).mono ?_
            rcases J.out with ⟨m', e, h, P⟩ | ⟨m', e, h, h2, P⟩ | ⟨l', m', e, h, h2, h3, hT, P⟩
            · have PH := Lib.hid P
              have hst : (m'.st == 0) = false := by simpa using h
              rw [e]
              rintro r s1 ⟨rfl, G2'⟩
              have G2 : Has w s1 [slC _ .u8 (.slice (some ⟨cb, off, none⟩) pks.length pc) pks, blkC _ eb #[.int .i64 0, .int .i64 1, .int .i64 2, .int .i64 8] 25, storeC _ sb sg l (dqCount m0 n1), blkC _ tb #[.pointer (some ⟨p0, 0, none⟩), .pointer (some ⟨p1, 0, none⟩), .pointer (some ⟨p2, 0, none⟩)] 32, dqC _ p0 (en 8) m', dqC _ p1 (en 8) m1, dqC _ p2 (en 8) m2] := G2'
              clear G2' e h P J
              go_wp2_with fail
              go_roundw
              case rel => exact ⟨i + 1, T, _, _, _, _, _, p0, p1, p2, by omega, by go_num, rfl, HT, PH, G2⟩
              case measure => simp [intOf]; omega
            · have PH := Lib.hid P
              have hst : (m'.st == 0) = true := by simpa using h
              obtain ⟨o, ho⟩ : ∃ o, dqOut m' = o := ⟨_, rfl⟩
              have ho1 : (o == 1) = false := by rw [← ho]; unfold dqOut; rw [hst]; simpa using h2
              have HS := Lib.hid (by omega : m'.st ≤ 14)
              rw [e]
              rintro r s1 ⟨rfl, G2'⟩
              have G2 : Has w s1 [slC _ .u8 (.slice (some ⟨cb, off, none⟩) pks.length pc) pks, blkC _ eb #[.int .i64 0, .int .i64 1, .int .i64 2, .int .i64 8] 25, storeC _ sb sg l (dqCount m0 n1), blkC _ tb #[.pointer (some ⟨p0, 0, none⟩), .pointer (some ⟨p1, 0, none⟩), .pointer (some ⟨p2, 0, none⟩)] 32, dqC _ p0 (en 8) m', dqC _ p1 (en 8) m1, dqC _ p2 (en 8) m2] := G2'
              clear G2' e h P J h2 y0 y1 y2 fy
              obtain ⟨y0, y1, y2, fy⟩ := row3 (G2.get 3 rfl)
              go_wp2_with fail
              refine (Result_q G2 4 m' rfl HS.out).mono ?_
              rw [ho]
              rintro r s2 ⟨rfl, d2, rfl⟩
              obtain ⟨b0, b1, b2, b3, fb⟩ := row4 (G2.get 1 rfl)
              go_wp2_with fail
              refine (Steal_8 (G2.drewN _)).mono ?_
              rintro r s3 ⟨q, rfl, G3'⟩
              have G3 : Has w s3 [slC _ .u8 (.slice (some ⟨cb, off, none⟩) pks.length pc) pks, blkC _ eb #[.int .i64 0, .int .i64 1, .int .i64 2, .int .i64 8] 25, storeC _ sb sg l (dqCount m0 n1), blkC _ tb #[.pointer (some ⟨p0, 0, none⟩), .pointer (some ⟨p1, 0, none⟩), .pointer (some ⟨p2, 0, none⟩)] 32, dqC _ p0 (en 8) m', dqC _ p1 (en 8) m1, dqC _ p2 (en 8) m2, dqC _ q (en 8) dqSteal] := G3'
              clear G3' G2 y0 y1 y2 fy b0 b1 b2 b3 fb
              obtain ⟨y0, y1, y2, fy⟩ := row3 (G3.get 3 rfl)
              go_wp2_with fail
              have G4 : Has w _ [slC _ .u8 (.slice (some ⟨cb, off, none⟩) pks.length pc) pks, blkC _ eb #[.int .i64 0, .int .i64 1, .int .i64 2, .int .i64 8] 25, storeC _ sb sg l (dqCount m0 n1), blkC _ tb #[.pointer (some ⟨q, 0, none⟩), .pointer (some ⟨p1, 0, none⟩), .pointer (some ⟨p2, 0, none⟩)] 32, dqC _ p0 (en 8) m', dqC _ p1 (en 8) m1, dqC _ p2 (en 8) m2, dqC _ q (en 8) dqSteal] := G3.blkSet 3 rfl 0 (.pointer (some ⟨q, 0, none⟩))
              have G5 := G4.pick [0, 1, 2, 3, 7, 5, 6] (by decide) (by simp)
              go_roundw
              case rel => exact ⟨i + 1, T, _, _, _, _, _, q, p1, p2, by omega, by go_num, rfl, HT, PH, G5⟩
              case measure => simp [intOf]; omega
            · have PH := Lib.hid P
              have hst : (m'.st == 0) = true := by simpa using h
              have ho : dqOut m' = 1 := by unfold dqOut; rw [hst]; exact h2
              have hw : dqW m' = (T : Int) + 1 := by unfold dqW; rw [hst]; exact h3
              have HS := Lib.hid (by omega : m'.st ≤ 14)
              have HT2 : Hid (T + 1 ≤ 7) := Lib.hid (by omega)
              rw [e]
              rintro r s1 ⟨rfl, G2'⟩
              have G2 : Has w s1 [slC _ .u8 (.slice (some ⟨cb, off, none⟩) pks.length pc) pks, blkC _ eb #[.int .i64 0, .int .i64 1, .int .i64 2, .int .i64 8] 25, storeC _ sb sg l' (dqCount m0 n1), blkC _ tb #[.pointer (some ⟨p0, 0, none⟩), .pointer (some ⟨p1, 0, none⟩), .pointer (some ⟨p2, 0, none⟩)] 32, dqC _ p0 (en 8) m', dqC _ p1 (en 8) m1, dqC _ p2 (en 8) m2] := G2'
              clear G2' e h P J h2 h3 hT y0 y1 y2 fy
              obtain ⟨y0, y1, y2, fy⟩ := row3 (G2.get 3 rfl)
              go_wp2_with fail
              refine (Result_q G2 4 m' rfl HS.out).mono ?_
              rw [ho, hw]
              rintro r s2 ⟨rfl, d2, rfl⟩
              obtain ⟨b0, b1, b2, b3, fb⟩ := row4 (G2.get 1 rfl)
              clear ho hw
              go_wp2_with fail
              refine (Steal_8 (G2.drewN _)).mono ?_
              rintro r s3 ⟨q, rfl, G3'⟩
              have G3 : Has w s3 [slC _ .u8 (.slice (some ⟨cb, off, none⟩) pks.length pc) pks, blkC _ eb #[.int .i64 0, .int .i64 1, .int .i64 2, .int .i64 8] 25, storeC _ sb sg l' (dqCount m0 n1), blkC _ tb #[.pointer (some ⟨p0, 0, none⟩), .pointer (some ⟨p1, 0, none⟩), .pointer (some ⟨p2, 0, none⟩)] 32, dqC _ p0 (en 8) m', dqC _ p1 (en 8) m1, dqC _ p2 (en 8) m2, dqC _ q (en 8) dqSteal] := G3'
              clear G3' G2 y0 y1 y2 fy b0 b1 b2 b3 fb
              obtain ⟨y0, y1, y2, fy⟩ := row3 (G3.get 3 rfl)
              go_wp2_with fail
              have G4 : Has w _ [slC _ .u8 (.slice (some ⟨cb, off, none⟩) pks.length pc) pks, blkC _ eb #[.int .i64 0, .int .i64 1, .int .i64 2, .int .i64 8] 25, storeC _ sb sg l' (dqCount m0 n1), blkC _ tb #[.pointer (some ⟨q, 0, none⟩), .pointer (some ⟨p1, 0, none⟩), .pointer (some ⟨p2, 0, none⟩)] 32, dqC _ p0 (en 8) m', dqC _ p1 (en 8) m1, dqC _ p2 (en 8) m2, dqC _ q (en 8) dqSteal] := G3.blkSet 3 rfl 0 (.pointer (some ⟨q, 0, none⟩))
              have G5 := G4.pick [0, 1, 2, 3, 7, 5, 6] (by decide) (by simp)
              go_roundw
              case rel => exact ⟨i + 1, T + 1, _, _, _, _, _, q, p1, p2, by omega, by go_num, by go_num, HT2, PH, G5⟩
              case measure => simp [intOf]; omega
          · have J := Lib.hid (thv_step1 I.out (fun q => by omega))
            have MO := Lib.hid I.out.a1.ok
            have le7 := HT.out
            clear I
            go_wp2_with fail
            refine (dqStep_h G 2 5 rfl (by decide) m1 rfl en8_ok MO.out).mono ?_
            rcases J.out with ⟨m', e, h, P⟩ | ⟨m', e, h, h2, P⟩ | ⟨l', m', e, h, h2, h3, hT, P⟩
            · have PH := Lib.hid P
              have hst : (m'.st == 0) = false := by simpa using h
              rw [e]
              rintro r s1 ⟨rfl, G2'⟩
              have G2 : Has w s1 [slC _ .u8 (.slice (some ⟨cb, off, none⟩) pks.length pc) pks, blkC _ eb #[.int .i64 0, .int .i64 1, .int .i64 2, .int .i64 8] 25, storeC _ sb sg l (dqCount m1 n1), blkC _ tb #[.pointer (some ⟨p0, 0, none⟩), .pointer (some ⟨p1, 0, none⟩), .pointer (some ⟨p2, 0, none⟩)] 32, dqC _ p0 (en 8) m0, dqC _ p1 (en 8) m', dqC _ p2 (en 8) m2] := G2'
              clear G2' e h P J
              go_wp2_with fail
              go_roundw
              case rel => exact ⟨i + 1, T, _, _, _, _, _, p0, p1, p2, by omega, by go_num, rfl, HT, PH, G2⟩
              case measure => simp [intOf]; omega
            · have PH := Lib.hid P
              have hst : (m'.st == 0) = true := by simpa using h
              obtain ⟨o, ho⟩ : ∃ o, dqOut m' = o := ⟨_, rfl⟩
              have ho1 : (o == 1) = false := by rw [← ho]; unfold dqOut; rw [hst]; simpa using h2
              have HS := Lib.hid (by omega : m'.st ≤ 14)
              rw [e]
              rintro r s1 ⟨rfl, G2'⟩
              have G2 : Has w s1 [slC _ .u8 (.slice (some ⟨cb, off, none⟩) pks.length pc) pks, blkC _ eb #[.int .i64 0, .int .i64 1, .int .i64 2, .int .i64 8] 25, storeC _ sb sg l (dqCount m1 n1), blkC _ tb #[.pointer (some ⟨p0, 0, none⟩), .pointer (some ⟨p1, 0, none⟩), .pointer (some ⟨p2, 0, none⟩)] 32, dqC _ p0 (en 8) m0, dqC _ p1 (en 8) m', dqC _ p2 (en 8) m2] := G2'
              clear G2' e h P J h2 y0 y1 y2 fy
              obtain ⟨y0, y1, y2, fy⟩ := row3 (G2.get 3 rfl)
              go_wp2_with fail
              refine (Result_q G2 5 m' rfl HS.out).mono ?_
              rw [ho]
              rintro r s2 ⟨rfl, d2, rfl⟩
              obtain ⟨b0, b1, b2, b3, fb⟩ := row4 (G2.get 1 rfl)
              go_wp2_with fail
              refine (Steal_8 (G2.drewN _)).mono ?_
              rintro r s3 ⟨q, rfl, G3'⟩
              have G3 : Has w s3 [slC _ .u8 (.slice (some ⟨cb, off, none⟩) pks.length pc) pks, blkC _ eb #[.int .i64 0, .int .i64 1, .int .i64 2, .int .i64 8] 25, storeC _ sb sg l (dqCount m1 n1), blkC _ tb #[.pointer (some ⟨p0, 0, none⟩), .pointer (some ⟨p1, 0, none⟩), .pointer (some ⟨p2, 0, none⟩)] 32, dqC _ p0 (en 8) m0, dqC _ p1 (en 8) m', dqC _ p2 (en 8) m2, dqC _ q (en 8) dqSteal] := G3'
              clear G3' G2 y0 y1 y2 fy b0 b1 b2 b3 fb
              obtain ⟨y0, y1, y2, fy⟩ := row3 (G3.get 3 rfl)
              go_wp2_with fail
              have G4 : Has w _ [slC _ .u8 (.slice (some ⟨cb, off, none⟩) pks.length pc) pks, blkC _ eb #[.int .i64 0, .int .i64 1, .int .i64 2, .int .i64 8] 25, storeC _ sb sg l (dqCount m1 n1), blkC _ tb #[.pointer (some ⟨p0, 0, none⟩), .pointer (some ⟨q, 0, none⟩), .pointer (some ⟨p2, 0, none⟩)] 32, dqC _ p0 (en 8) m0, dqC _ p1 (en 8) m', dqC _ p2 (en 8) m2, dqC _ q (en 8) dqSteal] := G3.blkSet 3 rfl 1 (.pointer (some ⟨q, 0, none⟩))
              have G5 := G4.pick [0, 1, 2, 3, 4, 7, 6] (by decide) (by simp)
              go_roundw
              case rel => exact ⟨i + 1, T, _, _, _, _, _, p0, q, p2, by omega, by go_num, rfl, HT, PH, G5⟩
              case measure => simp [intOf]; omega
            · have PH := Lib.hid P
              have hst : (m'.st == 0) = true := by simpa using h
              have ho : dqOut m' = 1 := by unfold dqOut; rw [hst]; exact h2
              have hw : dqW m' = (T : Int) + 1 := by unfold dqW; rw [hst]; exact h3
              have HS := Lib.hid (by omega : m'.st ≤ 14)
              have HT2 : Hid (T + 1 ≤ 7) := Lib.hid (by omega)
              rw [e]
              rintro r s1 ⟨rfl, G2'⟩
              have G2 : Has w s1 [slC _ .u8 (.slice (some ⟨cb, off, none⟩) pks.length pc) pks, blkC _ eb #[.int .i64 0, .int .i64 1, .int .i64 2, .int .i64 8] 25, storeC _ sb sg l' (dqCount m1 n1), blkC _ tb #[.pointer (some ⟨p0, 0, none⟩), .pointer (some ⟨p1, 0, none⟩), .pointer (some ⟨p2, 0, none⟩)] 32, dqC _ p0 (en 8) m0, dqC _ p1 (en 8) m', dqC _ p2 (en 8) m2] := G2'
              clear G2' e h P J h2 h3 hT y0 y1 y2 fy
              obtain ⟨y0, y1, y2, fy⟩ := row3 (G2.get 3 rfl)
              go_wp2_with fail
              refine (Result_q G2 5 m' rfl HS.out).mono ?_
              rw [ho, hw]
              rintro r s2 ⟨rfl, d2, rfl⟩
              obtain ⟨b0, b1, b2, b3, fb⟩ := row4 (G2.get 1 rfl)
              clear ho hw
              go_wp2_with fail
              refine (Steal_8 (G2.drewN _)).mono ?_
              rintro r s3 ⟨q, rfl, G3'⟩
              have G3 : Has w s3 [slC _ .u8 (.slice (some ⟨cb, off, none⟩) pks.length pc) pks, blkC _ eb #[.int .i64 0, .int .i64 1, .int .i64 2, .int .i64 8] 25, storeC _ sb sg l' (dqCount m1 n1), blkC _ tb #[.pointer (some ⟨p0, 0, none⟩), .pointer (some ⟨p1, 0, none⟩), .pointer (some ⟨p2, 0, none⟩)] 32, dqC _ p0 (en 8) m0, dqC _ p1 (en 8) m', dqC _ p2 (en 8) m2, dqC _ q (en 8) dqSteal] := G3'
              clear G3' G2 y0 y1 y2 fy b0 b1 b2 b3 fb
              obtain ⟨y0, y1, y2, fy⟩ := row3 (G3.get 3 rfl)
              go_wp2_with fail
              have G4 : Has w _ [slC _ .u8 (.slice (some ⟨cb, off, none⟩) pks.length pc) pks, blkC _ eb #[.int .i64 0, .int .i64 1, .int .i64 2, .int .i64 8] 25, storeC _ sb sg l' (dqCount m1 n1), blkC _ tb #[.pointer (some ⟨p0, 0, none⟩), .pointer (some ⟨q, 0, none⟩), .pointer (some ⟨p2, 0, none⟩)] 32, dqC _ p0 (en 8) m0, dqC _ p1 (en 8) m', dqC _ p2 (en 8) m2, dqC _ q (en 8) dqSteal] := G3.blkSet 3 rfl 1 (.pointer (some ⟨q, 0, none⟩))
              have G5 := G4.pick [0, 1, 2, 3, 4, 7, 6] (by decide) (by simp)
              go_roundw
              case rel => exact ⟨i + 1, T + 1, _, _, _, _, _, p0, q, p2, by omega, by go_num, by go_num, HT2, PH, G5⟩
              case measure => simp [intOf]; omega
          · have J := Lib.hid (thv_step2 I.out (fun q => by omega))
            have MO := Lib.hid I.out.a2.ok
            have le7 := HT.out
            clear I
            go_wp2_with fail
            refine (dqStep_h G 2 6 rfl (by decide) m2 rfl en8_ok MO.out).mono ?_
            rcases J.out with ⟨m', e, h, P⟩ | ⟨m', e, h, h2, P⟩ | ⟨l', m', e, h, h2, h3, hT, P⟩
            · have PH := Lib.hid P
              have hst : (m'.st == 0) = false := by simpa using h
              rw [e]
              rintro r s1 ⟨rfl, G2'⟩
              have G2 : Has w s1 [slC _ .u8 (.slice (some ⟨cb, off, none⟩) pks.length pc) pks, blkC _ eb #[.int .i64 0, .int .i64 1, .int .i64 2, .int .i64 8] 25, storeC _ sb sg l (dqCount m2 n1), blkC _ tb #[.pointer (some ⟨p0, 0, none⟩), .pointer (some ⟨p1, 0, none⟩), .pointer (some ⟨p2, 0, none⟩)] 32, dqC _ p0 (en 8) m0, dqC _ p1 (en 8) m1, dqC _ p2 (en 8) m'] := G2'
              clear G2' e h P J
              go_wp2_with fail
              go_roundw
              case rel => exact ⟨i + 1, T, _, _, _, _, _, p0, p1, p2, by omega, by go_num, rfl, HT, PH, G2⟩
              case measure => simp [intOf]; omega
            · have PH := Lib.hid P
              have hst : (m'.st == 0) = true := by simpa using h
              obtain ⟨o, ho⟩ : ∃ o, dqOut m' = o := ⟨_, rfl⟩
              have ho1 : (o == 1) = false := by rw [← ho]; unfold dqOut; rw [hst]; simpa using h2
              have HS := Lib.hid (by omega : m'.st ≤ 14)
              rw [e]
              rintro r s1 ⟨rfl, G2'⟩
              have G2 : Has w s1 [slC _ .u8 (.slice (some ⟨cb, off, none⟩) pks.length pc) pks, blkC _ eb #[.int .i64 0, .int .i64 1, .int .i64 2, .int .i64 8] 25, storeC _ sb sg l (dqCount m2 n1), blkC _ tb #[.pointer (some ⟨p0, 0, none⟩), .pointer (some ⟨p1, 0, none⟩), .pointer (some ⟨p2, 0, none⟩)] 32, dqC _ p0 (en 8) m0, dqC _ p1 (en 8) m1, dqC _ p2 (en 8) m'] := G2'
              clear G2' e h P J h2 y0 y1 y2 fy
              obtain ⟨y0, y1, y2, fy⟩ := row3 (G2.get 3 rfl)
              go_wp2_with fail
              refine (Result_q G2 6 m' rfl HS.out).mono ?_
              rw [ho]
              rintro r s2 ⟨rfl, d2, rfl⟩
              obtain ⟨b0, b1, b2, b3, fb⟩ := row4 (G2.get 1 rfl)
              go_wp2_with fail
              refine (Steal_8 (G2.drewN _)).mono ?_
              rintro r s3 ⟨q, rfl, G3'⟩
              have G3 : Has w s3 [slC _ .u8 (.slice (some ⟨cb, off, none⟩) pks.length pc) pks, blkC _ eb #[.int .i64 0, .int .i64 1, .int .i64 2, .int .i64 8] 25, storeC _ sb sg l (dqCount m2 n1), blkC _ tb #[.pointer (some ⟨p0, 0, none⟩), .pointer (some ⟨p1, 0, none⟩), .pointer (some ⟨p2, 0, none⟩)] 32, dqC _ p0 (en 8) m0, dqC _ p1 (en 8) m1, dqC _ p2 (en 8) m', dqC _ q (en 8) dqSteal] := G3'
              clear G3' G2 y0 y1 y2 fy b0 b1 b2 b3 fb
              obtain ⟨y0, y1, y2, fy⟩ := row3 (G3.get 3 rfl)
              go_wp2_with fail
              have G4 : Has w _ [slC _ .u8 (.slice (some ⟨cb, off, none⟩) pks.length pc) pks, blkC _ eb #[.int .i64 0, .int .i64 1, .int .i64 2, .int .i64 8] 25, storeC _ sb sg l (dqCount m2 n1), blkC _ tb #[.pointer (some ⟨p0, 0, none⟩), .pointer (some ⟨p1, 0, none⟩), .pointer (some ⟨q, 0, none⟩)] 32, dqC _ p0 (en 8) m0, dqC _ p1 (en 8) m1, dqC _ p2 (en 8) m', dqC _ q (en 8) dqSteal] := G3.blkSet 3 rfl 2 (.pointer (some ⟨q, 0, none⟩))
              have G5 := G4.pick [0, 1, 2, 3, 4, 5, 7] (by decide) (by simp)
              go_roundw
              case rel => exact ⟨i + 1, T, _, _, _, _, _, p0, p1, q, by omega, by go_num, rfl, HT, PH, G5⟩
              case measure => simp [intOf]; omega
            · have PH := Lib.hid P
              have hst : (m'.st == 0) = true := by simpa using h
              have ho : dqOut m' = 1 := by unfold dqOut; rw [hst]; exact h2
              have hw : dqW m' = (T : Int) + 1 := by unfold dqW; rw [hst]; exact h3
              have HS := Lib.hid (by omega : m'.st ≤ 14)
              have HT2 : Hid (T + 1 ≤ 7) := Lib.hid (by omega)
              rw [e]
              rintro r s1 ⟨rfl, G2'⟩
              have G2 : Has w s1 [slC _ .u8 (.slice (some ⟨cb, off, none⟩) pks.length pc) pks, blkC _ eb #[.int .i64 0, .int .i64 1, .int .i64 2, .int .i64 8] 25, storeC _ sb sg l' (dqCount m2 n1), blkC _ tb #[.pointer (some ⟨p0, 0, none⟩), .pointer (some ⟨p1, 0, none⟩), .pointer (some ⟨p2, 0, none⟩)] 32, dqC _ p0 (en 8) m0, dqC _ p1 (en 8) m1, dqC _ p2 (en 8) m'] := G2'
              clear G2' e h P J h2 h3 hT y0 y1 y2 fy
              obtain ⟨y0, y1, y2, fy⟩ := row3 (G2.get 3 rfl)
              go_wp2_with fail
              refine (Result_q G2 6 m' rfl HS.out).mono ?_
              rw [ho, hw]
              rintro r s2 ⟨rfl, d2, rfl⟩
              obtain ⟨b0, b1, b2, b3, fb⟩ := row4 (G2.get 1 rfl)
              clear ho hw
              go_wp2_with fail
              refine (Steal_8 (G2.drewN _)).mono ?_
              rintro r s3 ⟨q, rfl, G3'⟩
              have G3 : Has w s3 [slC _ .u8 (.slice (some ⟨cb, off, none⟩) pks.length pc) pks, blkC _ eb #[.int .i64 0, .int .i64 1, .int .i64 2, .int .i64 8] 25, storeC _ sb sg l' (dqCount m2 n1), blkC _ tb #[.pointer (some ⟨p0, 0, none⟩), .pointer (some ⟨p1, 0, none⟩), .pointer (some ⟨p2, 0, none⟩)] 32, dqC _ p0 (en 8) m0, dqC _ p1 (en 8) m1, dqC _ p2 (en 8) m', dqC _ q (en 8) dqSteal] := G3'
              clear G3' G2 y0 y1 y2 fy b0 b1 b2 b3 fb
              obtain ⟨y0, y1, y2, fy⟩ := row3 (G3.get 3 rfl)
              go_wp2_with fail
              have G4 : Has w _ [slC _ .u8 (.slice (some ⟨cb, off, none⟩) pks.length pc) pks, blkC _ eb #[.int .i64 0, .int .i64 1, .int .i64 2, .int .i64 8] 25, storeC _ sb sg l' (dqCount m2 n1), blkC _ tb #[.pointer (some ⟨p0, 0, none⟩), .pointer (some ⟨p1, 0, none⟩), .pointer (some ⟨q, 0, none⟩)] 32, dqC _ p0 (en 8) m0, dqC _ p1 (en 8) m1, dqC _ p2 (en 8) m', dqC _ q (en 8) dqSteal] := G3.blkSet 3 rfl 2 (.pointer (some ⟨q, 0, none⟩))
              have G5 := G4.pick [0, 1, 2, 3, 4, 5, 7] (by decide) (by simp)
              go_roundw
              case rel => exact ⟨i + 1, T + 1, _, _, _, _, _, p0, p1, q, by omega, by go_num, by go_num, HT2, PH, G5⟩
              case measure => simp [intOf]; omega
        · have hp' : ¬ (i : Int) < (pks.length : Int) := by omega
          obtain ⟨X, hX⟩ : ∃ X, (i : Int).tmod 3 = X := ⟨_, rfl⟩
          have hX4 : (i : Int) % 3 = X := by rw [← hX, Int.tmod_eq_emod_of_nonneg (by omega)]
          have hX3 : X = 0 ∨ X = 1 ∨ X = 2 := by omega
          rcases hX3 with rfl | rfl | rfl
          · have J := Lib.hid (thv_step0 I.out)
            have MO := Lib.hid I.out.a0.ok
            have le7 := HT.out
            clear I
            go_wp2_with fail
            refine (dqStep_h G 2 4 rfl (by decide) m0 rfl en8_ok MO.out).mono ?_
            rcases J.out with ⟨m', e, h, P⟩ | ⟨m', e, h, h2, P⟩ | ⟨l', m', e, h, h2, h3, hT, P⟩
            · have PH := Lib.hid P
              have hst : (m'.st == 0) = false := by simpa using h
              rw [e]
              rintro r s1 ⟨rfl, G2'⟩
              have G2 : Has w s1 [slC _ .u8 (.slice pa pks.length pc) pks, blkC _ eb #[.int .i64 0, .int .i64 1, .int .i64 2, .int .i64 8] 25, storeC _ sb sg l (dqCount m0 n1), blkC _ tb #[.pointer (some ⟨p0, 0, none⟩), .pointer (some ⟨p1, 0, none⟩), .pointer (some ⟨p2, 0, none⟩)] 32, dqC _ p0 (en 8) m', dqC _ p1 (en 8) m1, dqC _ p2 (en 8) m2] := G2'
              clear G2' e h P J
              go_wp2_with fail
              go_roundw
              case rel => exact ⟨i + 1, T, _, _, _, _, _, p0, p1, p2, by omega, by go_num, rfl, HT, PH, G2⟩
              case measure => simp [intOf]; omega
            · have PH := Lib.hid P
              have hst : (m'.st == 0) = true := by simpa using h
              obtain ⟨o, ho⟩ : ∃ o, dqOut m' = o := ⟨_, rfl⟩
              have ho1 : (o == 1) = false := by rw [← ho]; unfold dqOut; rw [hst]; simpa using h2
              have HS := Lib.hid (by omega : m'.st ≤ 14)
              rw [e]
              rintro r s1 ⟨rfl, G2'⟩
              have G2 : Has w s1 [slC _ .u8 (.slice pa pks.length pc) pks, blkC _ eb #[.int .i64 0, .int .i64 1, .int .i64 2, .int .i64 8] 25, storeC _ sb sg l (dqCount m0 n1), blkC _ tb #[.pointer (some ⟨p0, 0, none⟩), .pointer (some ⟨p1, 0, none⟩), .pointer (some ⟨p2, 0, none⟩)] 32, dqC _ p0 (en 8) m', dqC _ p1 (en 8) m1, dqC _ p2 (en 8) m2] := G2'
              clear G2' e h P J h2 y0 y1 y2 fy
              obtain ⟨y0, y1, y2, fy⟩ := row3 (G2.get 3 rfl)
              go_wp2_with fail
              refine (Result_q G2 4 m' rfl HS.out).mono ?_
              rw [ho]
              rintro r s2 ⟨rfl, d2, rfl⟩
              obtain ⟨b0, b1, b2, b3, fb⟩ := row4 (G2.get 1 rfl)
              go_wp2_with fail
              refine (Steal_8 (G2.drewN _)).mono ?_
              rintro r s3 ⟨q, rfl, G3'⟩
              have G3 : Has w s3 [slC _ .u8 (.slice pa pks.length pc) pks, blkC _ eb #[.int .i64 0, .int .i64 1, .int .i64 2, .int .i64 8] 25, storeC _ sb sg l (dqCount m0 n1), blkC _ tb #[.pointer (some ⟨p0, 0, none⟩), .pointer (some ⟨p1, 0, none⟩), .pointer (some ⟨p2, 0, none⟩)] 32, dqC _ p0 (en 8) m', dqC _ p1 (en 8) m1, dqC _ p2 (en 8) m2, dqC _ q (en 8) dqSteal] := G3'
              clear G3' G2 y0 y1 y2 fy b0 b1 b2 b3 fb
              obtain ⟨y0, y1, y2, fy⟩ := row3 (G3.get 3 rfl)
              go_wp2_with fail
              have G4 : Has w _ [slC _ .u8 (.slice pa pks.length pc) pks, blkC _ eb #[.int .i64 0, .int .i64 1, .int .i64 2, .int .i64 8] 25, storeC _ sb sg l (dqCount m0 n1), blkC _ tb #[.pointer (some ⟨q, 0, none⟩), .pointer (some ⟨p1, 0, none⟩), .pointer (some ⟨p2, 0, none⟩)] 32, dqC _ p0 (en 8) m', dqC _ p1 (en 8) m1, dqC _ p2 (en 8) m2, dqC _ q (en 8) dqSteal] := G3.blkSet 3 rfl 0 (.pointer (some ⟨q, 0, none⟩))
              have G5 := G4.pick [0, 1, 2, 3, 7, 5, 6] (by decide) (by simp)
              go_roundw
              case rel => exact ⟨i + 1, T, _, _, _, _, _, q, p1, p2, by omega, by go_num, rfl, HT, PH, G5⟩
              case measure => simp [intOf]; omega
            · have PH := Lib.hid P
              have hst : (m'.st == 0) = true := by simpa using h
              have ho : dqOut m' = 1 := by unfold dqOut; rw [hst]; exact h2
              have hw : dqW m' = (T : Int) + 1 := by unfold dqW; rw [hst]; exact h3
              have HS := Lib.hid (by omega : m'.st ≤ 14)
              have HT2 : Hid (T + 1 ≤ 7) := Lib.hid (by omega)
              rw [e]
              rintro r s1 ⟨rfl, G2'⟩
              have G2 : Has w s1 [slC _ .u8 (.slice pa pks.length pc) pks, blkC _ eb #[.int .i64 0, .int .i64 1, .int .i64 2, .int .i64 8] 25, storeC _ sb sg l' (dqCount m0 n1), blkC _ tb #[.pointer (some ⟨p0, 0, none⟩), .pointer (some ⟨p1, 0, none⟩), .pointer (some ⟨p2, 0, none⟩)] 32, dqC _ p0 (en 8) m', dqC _ p1 (en 8) m1, dqC _ p2 (en 8) m2] := G2'
              clear G2' e h P J h2 h3 hT y0 y1 y2 fy
              obtain ⟨y0, y1, y2, fy⟩ := row3 (G2.get 3 rfl)
              go_wp2_with fail
              refine (Result_q G2 4 m' rfl HS.out).mono ?_
              rw [ho, hw]
              rintro r s2 ⟨rfl, d2, rfl⟩
              obtain ⟨b0, b1, b2, b3, fb⟩ := row4 (G2.get 1 rfl)
              clear ho hw
              go_wp2_with fail
              refine (Steal_8 (G2.drewN _)).mono ?_
              rintro r s3 ⟨q, rfl, G3'⟩
              have G3 : Has w s3 [slC _ .u8 (.slice pa pks.length pc) pks, blkC _ eb #[.int .i64 0, .int .i64 1, .int .i64 2, .int .i64 8] 25, storeC _ sb sg l' (dqCount m0 n1), blkC _ tb #[.pointer (some ⟨p0, 0, none⟩), .pointer (some ⟨p1, 0, none⟩), .pointer (some ⟨p2, 0, none⟩)] 32, dqC _ p0 (en 8) m', dqC _ p1 (en 8) m1, dqC _ p2 (en 8) m2, dqC _ q (en 8) dqSteal] := G3'
              clear G3' G2 y0 y1 y2 fy b0 b1 b2 b3 fb
              obtain ⟨y0, y1, y2, fy⟩ := row3 (G3.get 3 rfl)
              go_wp2_with fail
              have G4 : Has w _ [slC _ .u8 (.slice pa pks.length pc) pks, blkC _ eb #[.int .i64 0, .int .i64 1, .int .i64 2, .int .i64 8] 25, storeC _ sb sg l' (dqCount m0 n1), blkC _ tb #[.pointer (some ⟨q, 0, none⟩), .pointer (some ⟨p1, 0, none⟩), .pointer (some ⟨p2, 0, none⟩)] 32, dqC _ p0 (en 8) m', dqC _ p1 (en 8) m1, dqC _ p2 (en 8) m2, dqC _ q (en 8) dqSteal] := G3.blkSet 3 rfl 0 (.pointer (some ⟨q, 0, none⟩))
              have G5 := G4.pick [0, 1, 2, 3, 7, 5, 6] (by decide) (by simp)
              go_roundw
              case rel => exact ⟨i + 1, T + 1, _, _, _, _, _, q, p1, p2, by omega, by go_num, by go_num, HT2, PH, G5⟩
              case measure => simp [intOf]; omega
          · have J := Lib.hid (thv_step1 I.out (fun _ => by omega))
            have MO := Lib.hid I.out.a1.ok
            have le7 := HT.out
            clear I
            go_wp2_with fail
            refine (dqStep_h G 2 5 rfl (by decide) m1 rfl en8_ok MO.out).mono ?_
            rcases J.out with ⟨m', e, h, P⟩ | ⟨m', e, h, h2, P⟩ | ⟨l', m', e, h, h2, h3, hT, P⟩
            · have PH := Lib.hid P
              have hst : (m'.st == 0) = false := by simpa using h
              rw [e]
              rintro r s1 ⟨rfl, G2'⟩
              have G2 : Has w s1 [slC _ .u8 (.slice pa pks.length pc) pks, blkC _ eb #[.int .i64 0, .int .i64 1, .int .i64 2, .int .i64 8] 25, storeC _ sb sg l (dqCount m1 n1), blkC _ tb #[.pointer (some ⟨p0, 0, none⟩), .pointer (some ⟨p1, 0, none⟩), .pointer (some ⟨p2, 0, none⟩)] 32, dqC _ p0 (en 8) m0, dqC _ p1 (en 8) m', dqC _ p2 (en 8) m2] := G2'
              clear G2' e h P J
              go_wp2_with fail
              go_roundw
              case rel => exact ⟨i + 1, T, _, _, _, _, _, p0, p1, p2, by omega, by go_num, rfl, HT, PH, G2⟩
              case measure => simp [intOf]; omega
            · have PH := Lib.hid P
              have hst : (m'.st == 0) = true := by simpa using h
              obtain ⟨o, ho⟩ : ∃ o, dqOut m' = o := ⟨_, rfl⟩
              have ho1 : (o == 1) = false := by rw [← ho]; unfold dqOut; rw [hst]; simpa using h2
              have HS := Lib.hid (by omega : m'.st ≤ 14)
              rw [e]
              rintro r s1 ⟨rfl, G2'⟩
              have G2 : Has w s1 [slC _ .u8 (.slice pa pks.length pc) pks, blkC _ eb #[.int .i64 0, .int .i64 1, .int .i64 2, .int .i64 8] 25, storeC _ sb sg l (dqCount m1 n1), blkC _ tb #[.pointer (some ⟨p0, 0, none⟩), .pointer (some ⟨p1, 0, none⟩), .pointer (some ⟨p2, 0, none⟩)] 32, dqC _ p0 (en 8) m0, dqC _ p1 (en 8) m', dqC _ p2 (en 8) m2] := G2'
              clear G2' e h P J h2 y0 y1 y2 fy
              obtain ⟨y0, y1, y2, fy⟩ := row3 (G2.get 3 rfl)
              go_wp2_with fail
              refine (Result_q G2 5 m' rfl HS.out).mono ?_
              rw [ho]
              rintro r s2 ⟨rfl, d2, rfl⟩
              obtain ⟨b0, b1, b2, b3, fb⟩ := row4 (G2.get 1 rfl)
              go_wp2_with fail
              refine (Steal_8 (G2.drewN _)).mono ?_
              rintro r s3 ⟨q, rfl, G3'⟩
              have G3 : Has w s3 [slC _ .u8 (.slice pa pks.length pc) pks, blkC _ eb #[.int .i64 0, .int .i64 1, .int .i64 2, .int .i64 8] 25, storeC _ sb sg l (dqCount m1 n1), blkC _ tb #[.pointer (some ⟨p0, 0, none⟩), .pointer (some ⟨p1, 0, none⟩), .pointer (some ⟨p2, 0, none⟩)] 32, dqC _ p0 (en 8) m0, dqC _ p1 (en 8) m', dqC _ p2 (en 8) m2, dqC _ q (en 8) dqSteal] := G3'
              clear G3' G2 y0 y1 y2 fy b0 b1 b2 b3 fb
              obtain ⟨y0, y1, y2, fy⟩ := row3 (G3.get 3 rfl)
              go_wp2_with fail
              have G4 : Has w _ [slC _ .u8 (.slice pa pks.length pc) pks, blkC _ eb #[.int .i64 0, .int .i64 1, .int .i64 2, .int .i64 8] 25, storeC _ sb sg l (dqCount m1 n1), blkC _ tb #[.pointer (some ⟨p0, 0, none⟩), .pointer (some ⟨q, 0, none⟩), .pointer (some ⟨p2, 0, none⟩)] 32, dqC _ p0 (en 8) m0, dqC _ p1 (en 8) m', dqC _ p2 (en 8) m2, dqC _ q (en 8) dqSteal] := G3.blkSet 3 rfl 1 (.pointer (some ⟨q, 0, none⟩))
              have G5 := G4.pick [0, 1, 2, 3, 4, 7, 6] (by decide) (by simp)
              go_roundw
              case rel => exact ⟨i + 1, T, _, _, _, _, _, p0, q, p2, by omega, by go_num, rfl, HT, PH, G5⟩
              case measure => simp [intOf]; omega
            · have PH := Lib.hid P
              have hst : (m'.st == 0) = true := by simpa using h
              have ho : dqOut m' = 1 := by unfold dqOut; rw [hst]; exact h2
              have hw : dqW m' = (T : Int) + 1 := by unfold dqW; rw [hst]; exact h3
              have HS := Lib.hid (by omega : m'.st ≤ 14)
              have HT2 : Hid (T + 1 ≤ 7) := Lib.hid (by omega)
              rw [e]
              rintro r s1 ⟨rfl, G2'⟩
              have G2 : Has w s1 [slC _ .u8 (.slice pa pks.length pc) pks, blkC _ eb #[.int .i64 0, .int .i64 1, .int .i64 2, .int .i64 8] 25, storeC _ sb sg l' (dqCount m1 n1), blkC _ tb #[.pointer (some ⟨p0, 0, none⟩), .pointer (some ⟨p1, 0, none⟩), .pointer (some ⟨p2, 0, none⟩)] 32, dqC _ p0 (en 8) m0, dqC _ p1 (en 8) m', dqC _ p2 (en 8) m2] := G2'
              clear G2' e h P J h2 h3 hT y0 y1 y2 fy
              obtain ⟨y0, y1, y2, fy⟩ := row3 (G2.get 3 rfl)
              go_wp2_with fail
              refine (Result_q G2 5 m' rfl HS.out).mono ?_
              rw [ho, hw]
              rintro r s2 ⟨rfl, d2, rfl⟩
              obtain ⟨b0, b1, b2, b3, fb⟩ := row4 (G2.get 1 rfl)
              clear ho hw
              go_wp2_with fail
              refine (Steal_8 (G2.drewN _)).mono ?_
              rintro r s3 ⟨q, rfl, G3'⟩
              have G3 : Has w s3 [slC _ .u8 (.slice pa pks.length pc) pks, blkC _ eb #[.int .i64 0, .int .i64 1, .int .i64 2, .int .i64 8] 25, storeC _ sb sg l' (dqCount m1 n1), blkC _ tb #[.pointer (some ⟨p0, 0, none⟩), .pointer (some ⟨p1, 0, none⟩), .pointer (some ⟨p2, 0, none⟩)] 32, dqC _ p0 (en 8) m0, dqC _ p1 (en 8) m', dqC _ p2 (en 8) m2, dqC _ q (en 8) dqSteal] := G3'
              clear G3' G2 y0 y1 y2 fy b0 b1 b2 b3 fb
              obtain ⟨y0, y1, y2, fy⟩ := row3 (G3.get 3 rfl)
              go_wp2_with fail
              have G4 : Has w _ [slC _ .u8 (.slice pa pks.length pc) pks, blkC _ eb #[.int .i64 0, .int .i64 1, .int .i64 2, .int .i64 8] 25, storeC _ sb sg l' (dqCount m1 n1), blkC _ tb #[.pointer (some ⟨p0, 0, none⟩), .pointer (some ⟨q, 0, none⟩), .pointer (some ⟨p2, 0, none⟩)] 32, dqC _ p0 (en 8) m0, dqC _ p1 (en 8) m', dqC _ p2 (en 8) m2, dqC _ q (en 8) dqSteal] := G3.blkSet 3 rfl 1 (.pointer (some ⟨q, 0, none⟩))
              have G5 := G4.pick [0, 1, 2, 3, 4, 7, 6] (by decide) (by simp)
              go_roundw
              case rel => exact ⟨i + 1, T + 1, _, _, _, _, _, p0, q, p2, by omega, by go_num, by go_num, HT2, PH, G5⟩
              case measure => simp [intOf]; omega
          · have J := Lib.hid (thv_step2 I.out (fun _ => by omega))
            have MO := Lib.hid I.out.a2.ok
            have le7 := HT.out
            clear I
            go_wp2_with fail
            refine (dqStep_h G 2 6 rfl (by decide) m2 rfl en8_ok MO.out).mono ?_
            rcases J.out with ⟨m', e, h, P⟩ | ⟨m', e, h, h2, P⟩ | ⟨l', m', e, h, h2, h3, hT, P⟩
            · have PH := Lib.hid P
              have hst : (m'.st == 0) = false := by simpa using h
              rw [e]
              rintro r s1 ⟨rfl, G2'⟩
              have G2 : Has w s1 [slC _ .u8 (.slice pa pks.length pc) pks, blkC _ eb #[.int .i64 0, .int .i64 1, .int .i64 2, .int .i64 8] 25, storeC _ sb sg l (dqCount m2 n1), blkC _ tb #[.pointer (some ⟨p0, 0, none⟩), .pointer (some ⟨p1, 0, none⟩), .pointer (some ⟨p2, 0, none⟩)] 32, dqC _ p0 (en 8) m0, dqC _ p1 (en 8) m1, dqC _ p2 (en 8) m'] := G2'
              clear G2' e h P J
              go_wp2_with fail
              go_roundw
              case rel => exact ⟨i + 1, T, _, _, _, _, _, p0, p1, p2, by omega, by go_num, rfl, HT, PH, G2⟩
              case measure => simp [intOf]; omega
            · have PH := Lib.hid P
              have hst : (m'.st == 0) = true := by simpa using h
              obtain ⟨o, ho⟩ : ∃ o, dqOut m' = o := ⟨_, rfl⟩
              have ho1 : (o == 1) = false := by rw [← ho]; unfold dqOut; rw [hst]; simpa using h2
              have HS := Lib.hid (by omega : m'.st ≤ 14)
              rw [e]
              rintro r s1 ⟨rfl, G2'⟩
              have G2 : Has w s1 [slC _ .u8 (.slice pa pks.length pc) pks, blkC _ eb #[.int .i64 0, .int .i64 1, .int .i64 2, .int .i64 8] 25, storeC _ sb sg l (dqCount m2 n1), blkC _ tb #[.pointer (some ⟨p0, 0, none⟩), .pointer (some ⟨p1, 0, none⟩), .pointer (some ⟨p2, 0, none⟩)] 32, dqC _ p0 (en 8) m0, dqC _ p1 (en 8) m1, dqC _ p2 (en 8) m'] := G2'
              clear G2' e h P J h2 y0 y1 y2 fy
              obtain ⟨y0, y1, y2, fy⟩ := row3 (G2.get 3 rfl)
              go_wp2_with fail
              refine (Result_q G2 6 m' rfl HS.out).mono ?_
              rw [ho]
              rintro r s2 ⟨rfl, d2, rfl⟩
              obtain ⟨b0, b1, b2, b3, fb⟩ := row4 (G2.get 1 rfl)
              go_wp2_with fail
              refine (Steal_8 (G2.drewN _)).mono ?_
              rintro r s3 ⟨q, rfl, G3'⟩
              have G3 : Has w s3 [slC _ .u8 (.slice pa pks.length pc) pks, blkC _ eb #[.int .i64 0, .int .i64 1, .int .i64 2, .int .i64 8] 25, storeC _ sb sg l (dqCount m2 n1), blkC _ tb #[.pointer (some ⟨p0, 0, none⟩), .pointer (some ⟨p1, 0, none⟩), .pointer (some ⟨p2, 0, none⟩)] 32, dqC _ p0 (en 8) m0, dqC _ p1 (en 8) m1, dqC _ p2 (en 8) m', dqC _ q (en 8) dqSteal] := G3'
              clear G3' G2 y0 y1 y2 fy b0 b1 b2 b3 fb
              obtain ⟨y0, y1, y2, fy⟩ := row3 (G3.get 3 rfl)
              go_wp2_with fail
              have G4 : Has w _ [slC _ .u8 (.slice pa pks.length pc) pks, blkC _ eb #[.int .i64 0, .int .i64 1, .int .i64 2, .int .i64 8] 25, storeC _ sb sg l (dqCount m2 n1), blkC _ tb #[.pointer (some ⟨p0, 0, none⟩), .pointer (some ⟨p1, 0, none⟩), .pointer (some ⟨q, 0, none⟩)] 32, dqC _ p0 (en 8) m0, dqC _ p1 (en 8) m1, dqC _ p2 (en 8) m', dqC _ q (en 8) dqSteal] := G3.blkSet 3 rfl 2 (.pointer (some ⟨q, 0, none⟩))
              have G5 := G4.pick [0, 1, 2, 3, 4, 5, 7] (by decide) (by simp)
              go_roundw
              case rel => exact ⟨i + 1, T, _, _, _, _, _, p0, p1, q, by omega, by go_num, rfl, HT, PH, G5⟩
              case measure => simp [intOf]; omega
            · have PH := Lib.hid P
              have hst : (m'.st == 0) = true := by simpa using h
              have ho : dqOut m' = 1 := by unfold dqOut; rw [hst]; exact h2
              have hw : dqW m' = (T : Int) + 1 := by unfold dqW; rw [hst]; exact h3
              have HS := Lib.hid (by omega : m'.st ≤ 14)
              have HT2 : Hid (T + 1 ≤ 7) := Lib.hid (by omega)
              rw [e]
              rintro r s1 ⟨rfl, G2'⟩
              have G2 : Has w s1 [slC _ .u8 (.slice pa pks.length pc) pks, blkC _ eb #[.int .i64 0, .int .i64 1, .int .i64 2, .int .i64 8] 25, storeC _ sb sg l' (dqCount m2 n1), blkC _ tb #[.pointer (some ⟨p0, 0, none⟩), .pointer (some ⟨p1, 0, none⟩), .pointer (some ⟨p2, 0, none⟩)] 32, dqC _ p0 (en 8) m0, dqC _ p1 (en 8) m1, dqC _ p2 (en 8) m'] := G2'
              clear G2' e h P J h2 h3 hT y0 y1 y2 fy
              obtain ⟨y0, y1, y2, fy⟩ := row3 (G2.get 3 rfl)
              go_wp2_with fail
              refine (Result_q G2 6 m' rfl HS.out).mono ?_
              rw [ho, hw]
              rintro r s2 ⟨rfl, d2, rfl⟩
              obtain ⟨b0, b1, b2, b3, fb⟩ := row4 (G2.get 1 rfl)
              clear ho hw
              go_wp2_with fail
              refine (Steal_8 (G2.drewN _)).mono ?_
              rintro r s3 ⟨q, rfl, G3'⟩
              have G3 : Has w s3 [slC _ .u8 (.slice pa pks.length pc) pks, blkC _ eb #[.int .i64 0, .int .i64 1, .int .i64 2, .int .i64 8] 25, storeC _ sb sg l' (dqCount m2 n1), blkC _ tb #[.pointer (some ⟨p0, 0, none⟩), .pointer (some ⟨p1, 0, none⟩), .pointer (some ⟨p2, 0, none⟩)] 32, dqC _ p0 (en 8) m0, dqC _ p1 (en 8) m1, dqC _ p2 (en 8) m', dqC _ q (en 8) dqSteal] := G3'
              clear G3' G2 y0 y1 y2 fy b0 b1 b2 b3 fb
              obtain ⟨y0, y1, y2, fy⟩ := row3 (G3.get 3 rfl)
              go_wp2_with fail
              have G4 : Has w _ [slC _ .u8 (.slice pa pks.length pc) pks, blkC _ eb #[.int .i64 0, .int .i64 1, .int .i64 2, .int .i64 8] 25, storeC _ sb sg l' (dqCount m2 n1), blkC _ tb #[.pointer (some ⟨p0, 0, none⟩), .pointer (some ⟨p1, 0, none⟩), .pointer (some ⟨q, 0, none⟩)] 32, dqC _ p0 (en 8) m0, dqC _ p1 (en 8) m1, dqC _ p2 (en 8) m', dqC _ q (en 8) dqSteal] := G3.blkSet 3 rfl 2 (.pointer (some ⟨q, 0, none⟩))
              have G5 := G4.pick [0, 1, 2, 3, 4, 5, 7] (by decide) (by simp)
              go_roundw
              case rel => exact ⟨i + 1, T + 1, _, _, _, _, _, p0, p1, q, by omega, by go_num, by go_num, HT2, PH, G5⟩
              case measure => simp [intOf]; omega
      · have hge : ¬ (i : Int) < (pks.length : Int) + 200 := by omega
        obtain rfl : i = pks.length + 200 := by omega
        obtain ⟨z1, z2, z3⟩ := thv_end I.out
        have Z2 := Lib.hid z2
        have Z3 := Lib.hid z3
        subst z1
        clear z2 z3
        go_wp2_with fail
        refine (Load_h G 2 rfl 0).mono ?_
        rw [Z2.out]
        rintro r s1 ⟨rfl, G2⟩
        go_wp2_with fail
        refine (Load_h G2 2 rfl 1).mono ?_
        rw [Z3.out]
        rintro r s2 ⟨rfl, G3⟩
        go_wp2_with fail
        go_ret
        exact ⟨rfl, G3.below⟩

theorem walk_DequeThieves (v : Int) (a : Option Addr) (len cap : Nat) (zs : List Int) (w : World) (hr : IsRow .u8 w a len cap zs) (v0 : 0 ≤ v) (v1 : v < 256) :
    Calls Try.prog 5 #[.int .u8 v, .slice a len cap] w fun r w' => r = .returned (.bool true) ∧ Below w.heap.size w w' := by
  obtain ⟨l, rfl, hsl, hwf⟩ := row_opens hr
  by_cases h1 : (400 : Int) < (l.length : Int)
  · exact thieves_big v a _ cap w v0 v1 h1
  · exact thieves_ok v a cap l w hsl (fun x hx => by have := Go.bounds_u8 (hwf x hx); omega) v0 v1 h1

end Go.Proofs.Ytlmmaijbppdckaa
