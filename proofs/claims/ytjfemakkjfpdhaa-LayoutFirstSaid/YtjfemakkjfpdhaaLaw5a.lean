/- The walk of LayoutParts. No condition but that the number is a byte. -/
import Derived.Test.YtjfemakkjfpdhaaMeth5b
set_option linter.unusedVariables false
namespace Go.Proofs.Ytjfemakkjfpdhaa
open Go.ChangeShapes Go.WideShapes Go.ChangeAt Go.RowKit

theorem pt_mul (nd sw : Int) (h : 1 ≤ sw) (hn : 1 ≤ nd) : nd ≤ (nd + sw - 1) / sw * sw ∧ ((nd + sw - 1) / sw - 1) * sw < nd := by
  have h1 := Int.ediv_mul_add_emod (nd + sw - 1) sw
  have h2 := Int.emod_nonneg (nd + sw - 1) (by omega : sw ≠ 0)
  have h3 := Int.emod_lt_of_pos (nd + sw - 1) (by omega : 0 < sw)
  rw [Int.sub_mul]
  omega

/-- What is known of a part. -/
structure PartF (c : Cfg) (j : Int) : Prop where
  lo : c.partLo j = j * c.sw + 1
  lo1 : 1 ≤ c.partLo j
  lohi : c.partLo j ≤ c.partHi j
  hi : c.partHi j ≤ c.nd
  full : j < c.pt - 1 → c.partHi j - c.partLo j + 1 = c.sw
  le : c.partHi j - c.partLo j + 1 ≤ c.sw
  hi2 : c.partHi j = (j + 1) * c.sw ∨ (c.partHi j = c.nd ∧ c.nd < (j + 1) * c.sw)

theorem part_f {c : Cfg} (h : CfgOk c) (j : Int) (h0 : 0 ≤ j) (h1 : j < c.pt) : PartF c j := by
  have hb := (cfg_bd h).nd
  have hs := h.sw
  have hp := pt_mul c.nd c.sw hs.1 hb.1
  have e : (c.nd + c.sw - 1) / c.sw = c.pt := rfl
  rw [e] at hp
  have m1 : j * c.sw ≤ (c.pt - 1) * c.sw := Int.mul_le_mul_of_nonneg_right (by omega) (by omega)
  have m0 : 0 ≤ j * c.sw := Int.mul_nonneg h0 (by omega)
  have m2 : (j + 1) * c.sw = j * c.sw + c.sw := by rw [Int.add_mul]; omega
  have e1 : c.partLo j = j * c.sw + 1 := by unfold Cfg.partLo; rw [if_pos ⟨h0, h1⟩]
  have e2 : c.partHi j = if (j + 1) * c.sw ≤ c.nd then (j + 1) * c.sw else c.nd := by unfold Cfg.partHi; rw [if_pos ⟨h0, h1⟩]
  have m3 : j < c.pt - 1 → (j + 1) * c.sw ≤ (c.pt - 1) * c.sw := fun q => Int.mul_le_mul_of_nonneg_right (by omega) (by omega)
  by_cases hq : (j + 1) * c.sw ≤ c.nd
  · rw [if_pos hq] at e2
    exact ⟨e1, by omega, by omega, by omega, fun q => by omega, by omega, .inl e2⟩
  · rw [if_neg hq] at e2
    exact ⟨e1, by omega, by omega, by omega, fun q => by have := m3 q; omega, by omega, .inr ⟨e2, by omega⟩⟩

/-- In how many of the first parts a node is. -/
def inN (c : Cfg) (node k : Int) : Int := if node ≤ k * c.sw then 1 else 0

theorem inN_step {c : Cfg} {nn lo hi : Int} {k : Nat} (h0 : lo = (k : Int) * c.sw + 1) (h2 : hi = ((k : Int) + 1) * c.sw ∨ (hi = c.nd ∧ c.nd < ((k : Int) + 1) * c.sw)) (hk : ((k : Int) + 1) * c.sw = (k : Int) * c.sw + c.sw) (hs : 1 ≤ c.sw) (hn : nn ≤ c.nd) :
    inN c nn ((k + 1 : Nat) : Int) = inN c nn k + (if lo ≤ nn ∧ nn ≤ hi then 1 else 0) := by
  have e : ((k + 1 : Nat) : Int) = (k : Int) + 1 := by omega
  rw [e]
  unfold inN
  by_cases a : nn ≤ (k : Int) * c.sw
  · rw [if_pos a, if_pos (by omega), if_neg (by omega)]; rfl
  · rw [if_neg a]
    by_cases b : nn ≤ hi
    · rw [if_pos (by omega), if_pos ⟨by omega, b⟩]; rfl
    · rw [if_neg (by omega), if_neg (by omega)]; rfl

set_option maxRecDepth 100000 in
set_option maxHeartbeats 4000000 in
theorem parts_ok (c : Cfg) (h : CfgOk c) (v : Int) (v0 : 0 ≤ v) (v1 : v < 256) (w : World) :
    Calls Try.prog 4 #[cfgV c, .int .u8 v] w fun e w' => e = .returned (.bool true) ∧ Below w.heap.size w w' := by
  have hbd := (cfg_bd h).nd
  have hpb := (cfg_bd h).pt
  have hsw := h.sw
  have hok : cfgOk c = true := (cfgOk_iff c).2 h
  have HOK := Lib.hid hok
  clear hok
  have e1 : IntKind.i64.wrap v = v := wrapi64_id _ (by omega) (by omega)
  have n0 := Int.emod_nonneg v (by omega : c.nd ≠ 0)
  have n1 := Int.emod_lt_of_pos v (by omega : 0 < c.nd)
  have e2 : v.tmod c.nd = v % c.nd := Int.tmod_eq_emod_of_nonneg v0
  have hmx : ¬ c.nd < 1 := by omega
  unfold cfgV cfgCells
  go_enter Try.func4, Try.ntmps4
  have G0 := (Has.nil w).blkNew (cfgCells c) 24
  go_wp2_with fail
  refine (awake5 _).mono ?_
  rintro e w1 ⟨rfl, q1⟩
  have G1 := G0.up q1
  obtain ⟨b0, b1, b2, b3, b4, b5, b6, b7, b8, b9, b10, b11, fb⟩ := row12 (G1.get 0 rfl)
  clear G0 q1
  go_wp2_with fail
  refine (model_c c _).mono ?_
  rintro e w2 ⟨rfl, q2⟩
  have G2 := G1.up q2
  clear G1 q2 b0 b1 b2 b3 b4 b5 b6 b7 b8 b9 b10 b11 fb
  go_wp2_with fail
  refine (RCheck_c c _).mono ?_
  rw [HOK.out]
  rintro e w3 ⟨rfl, q3⟩
  have G3 := G2.up q3
  have he : errB true = 0 := rfl
  rw [he]
  obtain ⟨b0, b1, b2, b3, b4, b5, b6, b7, b8, b9, b10, b11, fb⟩ := row12 (G3.get 0 rfl)
  clear G2 q3 he
  go_wp2_with fail
  refine (New_m G3 c h).mono ?_
  rintro e w4 ⟨mb, av, rv, rfl, G4⟩
  have M4 := G4.mapAt 1 rfl h
  clear G3 b0 b1 b2 b3 b4 b5 b6 b7 b8 b9 b10 b11 fb
  go_wp2_with fail
  refine (Nodes_q M4).mono ?_
  rintro e w5 ⟨rfl, d1, rfl⟩
  go_wp2_with fail
  obtain ⟨nn, hnn⟩ : ∃ nn, nn = v % c.nd + 1 := ⟨_, rfl⟩
  rw [← hnn]
  have hnb : 1 ≤ nn ∧ nn ≤ c.nd := by omega
  clear hnn n0 n1 e2
  have G5 := (G4.drewN d1).pick [0, 1] (by decide) (by simp)
  have HPT := Lib.hid (pt_mul c.nd c.sw hsw.1 hbd.1)
  clear G4 M4
  go_loopw [9, 10, 11, 12] (fun nv jv u1 u2 wr => ∃ (k : Nat) (x : Int), (k : Int) ≤ c.pt ∧ jv = .int .i64 k ∧ nv = .int .i64 x ∧ x = inN c nn k ∧ Has w wr [blkC _ w.heap.size (cfgCells c) 24, mapC _ mb av rv c]) (fun _ jv _ _ _ => 101 - (intOf jv).toNat)
  case atStart => exact ⟨0, 0, by omega, rfl, rfl, by unfold inN; rw [if_neg (by simp; omega)], G5⟩
  case round =>
    obtain ⟨k, x, hk, rfl, rfl, hx, G⟩ := hrel
    have hxb : 0 ≤ x ∧ x ≤ 1 := by rw [hx]; unfold inN; split <;> omega
    have XX := Lib.hid hx
    clear hx G5
    have M := G.mapAt 1 rfl h
    obtain ⟨b0, b1, b2, b3, b4, b5, b6, b7, b8, b9, b10, b11, fb⟩ := row12 (G.get 0 rfl)
    by_cases hlt : (k : Int) < c.pt
    · obtain ⟨f0, f1, f2, f3, f4, f5, f6⟩ := part_f h (k : Int) (by omega) hlt
      have hkm : ((k : Int) + 1) * c.sw = (k : Int) * c.sw + c.sw := by rw [Int.add_mul]; omega
      obtain ⟨lo, hlo⟩ : ∃ lo, lo = c.partLo k := ⟨_, rfl⟩
      obtain ⟨hi, hhi⟩ : ∃ hi, hi = c.partHi k := ⟨_, rfl⟩
      rw [← hlo, ← hhi] at f2 f4 f5
      rw [← hlo] at f0 f1
      rw [← hhi] at f3 f6
      have PL := Lib.hid (And.intro hlo hhi)
      have FF := Lib.hid (And.intro f0 (And.intro f4 (And.intro f6 hkm)))
      clear hlo hhi f0 f4 f6 hkm
      by_cases hlast : (k : Int) < c.pt - 1
      · have hne : (hi - lo + 1 != c.sw) = false := by have := FF.out.2.1 hlast; simp; exact this
        by_cases ha : lo ≤ nn
        · by_cases hb : nn ≤ hi
          all_goals
            go_wp2_with fail
            refine (Parts_q M).mono ?_
            rintro e t1 ⟨rfl, d2, rfl⟩
            go_wp2_with fail
            refine (Part_q (M.drewN _) k).mono ?_
            rw [← PL.out.1, ← PL.out.2]
            rintro e t2 ⟨rfl, d3, rfl⟩
            go_wp2_with fail
            refine (Nodes_q (M.drewN _)).mono ?_
            rintro e t3 ⟨rfl, d4, rfl⟩
            go_wp2_with fail
            refine (Parts_q (M.drewN _)).mono ?_
            rintro e t4 ⟨rfl, d5, rfl⟩
            go_wp2_with fail
            go_roundw
            case rel => exact ⟨k + 1, _, by omega, by go_num, rfl, by rw [inN_step FF.out.1 FF.out.2.2.1 FF.out.2.2.2 hsw.1 hnb.2, XX.out]; (split <;> omega), G.drewN _⟩
            case measure => simp [intOf]; omega
        · go_wp2_with fail
          refine (Parts_q M).mono ?_
          rintro e t1 ⟨rfl, d2, rfl⟩
          go_wp2_with fail
          refine (Part_q (M.drewN _) k).mono ?_
          rw [← PL.out.1, ← PL.out.2]
          rintro e t2 ⟨rfl, d3, rfl⟩
          go_wp2_with fail
          refine (Nodes_q (M.drewN _)).mono ?_
          rintro e t3 ⟨rfl, d4, rfl⟩
          go_wp2_with fail
          refine (Parts_q (M.drewN _)).mono ?_
          rintro e t4 ⟨rfl, d5, rfl⟩
          go_wp2_with fail
          go_roundw
          case rel => exact ⟨k + 1, _, by omega, by go_num, rfl, by rw [inN_step FF.out.1 FF.out.2.2.1 FF.out.2.2.2 hsw.1 hnb.2, XX.out]; (split <;> omega), G.drewN _⟩
          case measure => simp [intOf]; omega
      · by_cases ha : lo ≤ nn
        · by_cases hb : nn ≤ hi
          all_goals
            go_wp2_with fail
            refine (Parts_q M).mono ?_
            rintro e t1 ⟨rfl, d2, rfl⟩
            go_wp2_with fail
            refine (Part_q (M.drewN _) k).mono ?_
            rw [← PL.out.1, ← PL.out.2]
            rintro e t2 ⟨rfl, d3, rfl⟩
            go_wp2_with fail
            refine (Nodes_q (M.drewN _)).mono ?_
            rintro e t3 ⟨rfl, d4, rfl⟩
            go_wp2_with fail
            refine (Parts_q (M.drewN _)).mono ?_
            rintro e t4 ⟨rfl, d5, rfl⟩
            go_wp2_with fail
            go_roundw
            case rel => exact ⟨k + 1, _, by omega, by go_num, rfl, by rw [inN_step FF.out.1 FF.out.2.2.1 FF.out.2.2.2 hsw.1 hnb.2, XX.out]; (split <;> omega), G.drewN _⟩
            case measure => simp [intOf]; omega
        · go_wp2_with fail
          refine (Parts_q M).mono ?_
          rintro e t1 ⟨rfl, d2, rfl⟩
          go_wp2_with fail
          refine (Part_q (M.drewN _) k).mono ?_
          rw [← PL.out.1, ← PL.out.2]
          rintro e t2 ⟨rfl, d3, rfl⟩
          go_wp2_with fail
          refine (Nodes_q (M.drewN _)).mono ?_
          rintro e t3 ⟨rfl, d4, rfl⟩
          go_wp2_with fail
          refine (Parts_q (M.drewN _)).mono ?_
          rintro e t4 ⟨rfl, d5, rfl⟩
          go_wp2_with fail
          go_roundw
          case rel => exact ⟨k + 1, _, by omega, by go_num, rfl, by rw [inN_step FF.out.1 FF.out.2.2.1 FF.out.2.2.2 hsw.1 hnb.2, XX.out]; (split <;> omega), G.drewN _⟩
          case measure => simp [intOf]; omega
    · have hx1 : x = 1 := by
        have hkp : (k : Int) = c.pt := by omega
        have e0 : (c.nd + c.sw - 1) / c.sw = c.pt := rfl
        have := HPT.out
        rw [e0] at this
        rw [XX.out, hkp]; unfold inN; rw [if_pos (by omega)]
      have hx2 : (x == 1) = true := by simpa using hx1
      have hn3 : 0 < c.nd := by omega
      clear hx1
      go_wp2_with fail
      refine (Parts_q M).mono ?_
      rintro e t1 ⟨rfl, d2, rfl⟩
      go_wp2_with fail
      refine (Nodes_q (M.drewN _)).mono ?_
      rintro e t3 ⟨rfl, d4, rfl⟩
      go_wp2_with fail
      go_ret
      exact ⟨by simp, below_drewN G.below _⟩

set_option maxRecDepth 100000 in
theorem parts_no (c : Cfg) (h : cfgOk c = false) (v : Int) (w : World) :
    Calls Try.prog 4 #[cfgV c, .int .u8 v] w fun e w' => e = .returned (.bool true) ∧ Below w.heap.size w w' := by
  have HOK := Lib.hid h
  clear h
  unfold cfgV cfgCells
  go_enter Try.func4, Try.ntmps4
  have G0 := (Has.nil w).blkNew (cfgCells c) 24
  go_wp2_with fail
  refine (awake5 _).mono ?_
  rintro e w1 ⟨rfl, q1⟩
  have G1 := G0.up q1
  obtain ⟨b0, b1, b2, b3, b4, b5, b6, b7, b8, b9, b10, b11, fb⟩ := row12 (G1.get 0 rfl)
  clear G0 q1
  go_wp2_with fail
  refine (model_c c _).mono ?_
  rintro e w2 ⟨rfl, q2⟩
  have G2 := G1.up q2
  clear G1 q2 b0 b1 b2 b3 b4 b5 b6 b7 b8 b9 b10 b11 fb
  go_wp2_with fail
  refine (RCheck_c c _).mono ?_
  rw [HOK.out]
  rintro e w3 ⟨rfl, q3⟩
  have G3 := G2.up q3
  have he : errB false = 21 := rfl
  rw [he]
  clear he
  go_wp2_with fail
  go_ret
  exact ⟨rfl, G3.below⟩

theorem walk_LayoutParts (c0 c1 c2 c3 c4 mr mu dq ch bf rt sw v : Int) (w : World) (v0 : 0 ≤ v) (v1 : v < 256) :
    Calls Try.prog 4 #[.agg #[.int .i64 c0, .int .i64 c1, .int .i64 c2, .int .i64 c3, .int .i64 c4, .int .i64 mr, .int .i64 mu, .int .i64 dq, .int .i64 ch, .int .i64 bf, .int .i64 rt, .int .i64 sw], .int .u8 v] w fun e w' => e = .returned (.bool true) ∧ Below w.heap.size w w' := by
  cases h : cfgOk ⟨c0, c1, c2, c3, c4, mr, mu, dq, ch, bf, rt, sw⟩ with
  | true => exact parts_ok ⟨c0, c1, c2, c3, c4, mr, mu, dq, ch, bf, rt, sw⟩ ((cfgOk_iff _).1 h) v v0 v1 w
  | false => exact parts_no ⟨c0, c1, c2, c3, c4, mr, mu, dq, ch, bf, rt, sw⟩ h v w

end Go.Proofs.Ytjfemakkjfpdhaa
