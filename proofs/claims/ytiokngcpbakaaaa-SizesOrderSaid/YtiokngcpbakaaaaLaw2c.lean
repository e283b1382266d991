/- The walk of SizesOrder. No condition but that the number is a byte. -/
import Derived.Test.YtiokngcpbakaaaaLaw2b
import Derived.Deep.RegionHeld3
set_option linter.unusedVariables false
set_option linter.unusedSimpArgs false
namespace Go.Proofs.Ytiokngcpbakaaaa
open Go.ChangeShapes Go.WideShapes Go.ChangeAt Go.RowKit

theorem tmod_nonneg2 (a b : Int) (h : 0 ≤ a) : a.tmod b = a % b := Int.tmod_eq_emod_of_nonneg h

def mx0 (c : Int) : Int := if c < 0 then 0 else c

/-- How many of the first cells have a class. -/
def cnt (xs : List Int) (i : Nat) (k : Int) : Int := ((xs.take i).filter (· == k)).length

theorem cnt_step (xs : List Int) (i : Nat) (x k : Int) (h : xs[i]? = some x) : cnt xs (i + 1) k = cnt xs i k + if x = k then 1 else 0 := by
  obtain ⟨hi, rfl⟩ := List.getElem?_eq_some_iff.1 h
  unfold cnt
  rw [List.take_succ_eq_append_getElem hi, List.filter_append, List.length_append]
  by_cases hk : xs[i] = k
  · simp [hk]
  · have : (xs[i] == k) = false := by simpa using hk
    simp [this, hk]

theorem cnt_le (xs : List Int) (i : Nat) (k : Int) : 0 ≤ cnt xs i k ∧ cnt xs i k ≤ i := by
  unfold cnt
  have := List.length_filter_le (· == k) (xs.take i)
  have h2 : (xs.take i).length ≤ i := List.length_take_le _ _
  omega

theorem filter_rep (n : Nat) (x k : Int) : ((List.replicate n x).filter (· == k)).length = if x = k then n else 0 := by
  by_cases h : x = k
  · subst h; rw [if_pos rfl, List.filter_eq_self.2 (by simp)]; simp
  · rw [if_neg h, List.filter_eq_nil_iff.2 (by intro a ha; rw [List.eq_of_mem_replicate ha]; simpa using h)]; rfl

theorem cnt_all (c0 c1 c2 c3 c4 : Int) (k : Int) : cnt (cPre [c0, c1, c2, c3, c4] 5) (cPre [c0, c1, c2, c3, c4] 5).length k = (if 0 = k then sBound c0 else 0) + (if 1 = k then sBound c1 else 0) + (if 2 = k then sBound c2 else 0) + (if 3 = k then sBound c3 else 0) + (if 4 = k then sBound c4 else 0) := by
  have h0 := sBound_lo c0; have h1 := sBound_lo c1; have h2 := sBound_lo c2; have h3 := sBound_lo c3; have h4 := sBound_lo c4
  unfold cnt
  rw [List.take_length, cPre5]
  simp only [List.filter_append, List.length_append, filter_rep]
  repeat' split
  all_goals omega

/-- The class of the cell ahead. -/
def lastC (c0 c1 c2 c3 c4 : Int) (i : Nat) : Int := if i = 0 then 0 else sClass c0 c1 c2 c3 c4 i

theorem class_mono (c0 c1 c2 c3 c4 : Int) (i : Nat) (h : ((i : Int) + 1) ≤ sNodes c0 c1 c2 c3 c4) : 0 ≤ lastC c0 c1 c2 c3 c4 i ∧ lastC c0 c1 c2 c3 c4 i ≤ sClass c0 c1 c2 c3 c4 (i + 1) ∧ sClass c0 c1 c2 c3 c4 (i + 1) ≤ 4 := by
  have g0 := sBound_lo c0; have g1 := sBound_lo c1; have g2 := sBound_lo c2; have g3 := sBound_lo c3; have g4 := sBound_lo c4
  unfold sNodes at h
  unfold lastC sClass
  repeat' split
  all_goals omega

theorem bound_more (c : Int) (h : c < 12) : sBound (mx0 c + 1) = sBound c + 1 := by
  unfold mx0 sBound; repeat' split <;> omega


def many5 (xs : List Int) (i : Nat) : Array Value := #[.int .i64 (cnt xs i 0), .int .i64 (cnt xs i 1), .int .i64 (cnt xs i 2), .int .i64 (cnt xs i 3), .int .i64 (cnt xs i 4)]

theorem many5_step (xs : List Int) (i : Nat) (x : Int) (h : xs[i]? = some x) (h0 : 0 ≤ x) (h4 : x ≤ 4) : (many5 xs i).setIfInBounds x.toNat (.int .i64 (cnt xs i x + 1)) = many5 xs (i + 1) := by
  have e := fun k => cnt_step xs i x k h
  have hx : x = 0 ∨ x = 1 ∨ x = 2 ∨ x = 3 ∨ x = 4 := by omega
  unfold many5
  rcases hx with rfl | rfl | rfl | rfl | rfl <;> simp [e]

theorem many5_get (xs : List Int) (i : Nat) (x : Int) (h0 : 0 ≤ x) (h4 : x ≤ 4) : (many5 xs i)[x.toNat]? = some (.int .i64 (cnt xs i x)) := by
  have hx : x = 0 ∨ x = 1 ∨ x = 2 ∨ x = 3 ∨ x = 4 := by omega
  unfold many5
  rcases hx with rfl | rfl | rfl | rfl | rfl <;> rfl

set_option maxRecDepth 100000 in
set_option maxHeartbeats 4000000 in
theorem walk_SizesOrder (c0 c1 c2 c3 c4 kk : Int) (w : World) (hk0 : 0 ≤ kk) (hk1 : kk < 256) :
    Calls Try.prog 12 #[.agg #[.int .i64 c0, .int .i64 c1, .int .i64 c2, .int .i64 c3, .int .i64 c4], .int .u8 kk] w fun e w' => e = .returned (.bool true) ∧ Below w.heap.size w w' := by
  have hlen := cells_len c0 c1 c2 c3 c4
  have htot := cells_total c0 c1 c2 c3 c4
  have hlb := cPre_len [c0, c1, c2, c3, c4] 5
  have hcls := fun v => cells_class c0 c1 c2 c3 c4 v
  have hall := fun k => cnt_all c0 c1 c2 c3 c4 k
  generalize hxs : cPre [c0, c1, c2, c3, c4] 5 = xs at *
  clear hxs
  have HL := Lib.hid hlen
  have HT := Lib.hid htot
  have HC := Lib.hid hcls
  have HA := Lib.hid hall
  have hn0 : 0 ≤ sNodes c0 c1 c2 c3 c4 := by rw [← hlen]; omega
  have hn1 : sNodes c0 c1 c2 c3 c4 ≤ 60 := by rw [← hlen]; omega
  clear hlen htot hcls hall
  go_enter Try.func12, Try.ntmps12
  have G0 := (Has.nil w).blkNew #[.int .i64 c0, .int .i64 c1, .int .i64 c2, .int .i64 c3, .int .i64 c4] 42
  go_wp2_with fail
  refine (awake2 _).mono ?_
  rintro e w1 ⟨rfl, b1⟩
  have G1 := G0.up b1
  obtain ⟨d0, d1, d2, d3, d4, fz⟩ := row5 (G1.get 0 rfl)
  clear G0 b1
  go_wp2_with fail
  refine (Nodes_c c0 c1 c2 c3 c4 _).mono ?_
  rintro e w2 ⟨rfl, b2⟩
  have G2 := (G1.up b2).blkNew #[.int .i64 0, .int .i64 0, .int .i64 0, .int .i64 0, .int .i64 0] 42
  clear G1 b2 d0 d1 d2 d3 d4 fz
  obtain ⟨mb, hmb⟩ : ∃ mb, mb = w2.heap.size := ⟨_, rfl⟩
  have MB := Lib.hid hmb
  generalize hN : sNodes c0 c1 c2 c3 c4 = N at *
  have HN := Lib.hid hN
  clear hN
  go_wp2_with fail
  rw [← hmb] at G2 ⊢
  clear hmb MB
  go_loopw [7, 9, 10, 11] (fun lv sv vv uu wr => ∃ (i : Nat), i ≤ xs.length ∧ vv = .int .i64 ((i : Int) + 1) ∧ lv = .int .i64 (lastC c0 c1 c2 c3 c4 i) ∧ sv = .int .i64 (wSum (xs.take i)) ∧ Has w wr [blkC _ w.heap.size #[.int .i64 c0, .int .i64 c1, .int .i64 c2, .int .i64 c3, .int .i64 c4] 42, blkC _ mb (many5 xs i) 42]) (fun _ _ vv _ _ => 61 - (intOf vv).toNat)
  case atStart => exact ⟨0, by omega, rfl, rfl, rfl, G2⟩
  case round =>
    obtain ⟨i, hi, rfl, rfl, rfl, G⟩ := hrel
    by_cases hlt : i < xs.length
    · have hle : (i : Int) + 1 ≤ N := by have := HL.out; omega
      have hm := class_mono c0 c1 c2 c3 c4 i (by rw [HN.out]; exact hle)
      have hx := HC.out ((i : Int) + 1) (by omega) hle
      rw [show ((i : Int) + 1 - 1).toNat = i by omega] at hx
      generalize hL : lastC c0 c1 c2 c3 c4 i = L at *
      have LL : lastC c0 c1 c2 c3 c4 (i + 1) = sClass c0 c1 c2 c3 c4 ((i : Int) + 1) := by unfold lastC; rw [if_neg (by omega)]; rfl
      generalize hX : sClass c0 c1 c2 c3 c4 ((i : Int) + 1) = x at *
      have HLX := Lib.hid (And.intro LL hX)
      have hsw := wSum_take xs i x hx
      have hbm := G.get 1 rfl
      have hcm : wr.cell? ⟨mb, x.toNat, none⟩ = some (.int .i64 (cnt xs i x)) := by rw [blk_cell hbm]; exact many5_get xs i x (by omega) (by omega)
      have fzm := blk_frozen hbm x.toNat
      have hst := many5_step xs i x hx (by omega) (by omega)
      have hbw := wSum_bd (xs.take i) (fun k _ => sWords_bd k)
      have hbl : (xs.take i).length ≤ i := List.length_take_le _ _
      have hbx := sWords_bd x
      have hcb := cnt_le xs i x
      have hmbl := blk_lt hbm
      have WS := Lib.hid (And.intro hsw (And.intro hst hx))
      obtain ⟨d0, d1, d2, d3, d4, fz⟩ := row5 (G.get 0 rfl)
      have hx0 : 0 ≤ x := by omega
      have hx4 : x < 5 := by omega
      have hxl : ¬ x < L := by omega
      have hx44 : ¬ (4 : Int) < x := by omega
      clear LL hX hL hsw hst hx hbm hm
      go_wp2_with fail
      refine (Class_c c0 c1 c2 c3 c4 ((i : Int) + 1) (by omega) _).mono ?_
      rw [HLX.out.2]
      rintro e w3 ⟨rfl, b3⟩
      have G3 := G.up b3
      have hcm3 := (b3.cell (p := ⟨mb, x.toNat, none⟩) hmbl).trans hcm
      have fzm3 := (b3.frozen (p := ⟨mb, x.toNat, none⟩) hmbl).trans fzm
      clear d0 d1 d2 d3 d4 fz G b3 hcm fzm
      go_wp2_with fail
      refine (Words_c x _).mono ?_
      rintro e w4 ⟨rfl, dn, rfl⟩
      have G4 := (G3.blkSet 1 rfl x.toNat (.int .i64 (cnt xs i x + 1))).drewN dn
      rw [WS.out.2.1] at G4
      clear hcm3 fzm3 G3
      go_wp2_with fail
      go_roundw
      case rel => exact ⟨i + 1, by omega, by go_num, by rw [HLX.out.1], by rw [WS.out.1], G4⟩
      case measure => simp [intOf]; omega
    · have hgt : ¬ (i : Int) + 1 ≤ N := by have := HL.out; omega
      have hil : i = xs.length := by omega
      have hws : wSum (xs.take i) = sTotal c0 c1 c2 c3 c4 := by rw [hil, List.take_length]; exact HT.out
      have hj : kk % 5 = 0 ∨ kk % 5 = 1 ∨ kk % 5 = 2 ∨ kk % 5 = 3 ∨ kk % 5 = 4 := by omega
      have hwb := wSum_bd (xs.take i) (fun k _ => sWords_bd k)
      have hwl : (xs.take i).length ≤ i := List.length_take_le _ _
      have hT1 : 0 ≤ sTotal c0 c1 c2 c3 c4 ∧ sTotal c0 c1 c2 c3 c4 ≤ 2000 := by rw [← hws]; omega
      generalize hT : sTotal c0 c1 c2 c3 c4 = T at *
      have TT := Lib.hid hT
      have HI := Lib.hid hil
      have hki : IntKind.i64.wrap kk = kk := wrapi64_id _ (by omega) (by omega)
      have hN1 : IntKind.i64.wrap (N + 1) = N + 1 := wrapi64_id _ (by omega) (by omega)
      have hcl1 : sClass c0 c1 c2 c3 c4 (N + 1) = -1 := cells_class_no c0 c1 c2 c3 c4 _ (.inr (by rw [HN.out]; omega))
      have hcl0 : sClass c0 c1 c2 c3 c4 0 = -1 := cells_class_no c0 c1 c2 c3 c4 _ (.inl (by omega))
      have CL := Lib.hid (And.intro hcl1 hcl0)
      have hbm := G.get 1 rfl
      have mbl := blk_lt hbm
      have zl := G.size
      have a0l := (G.lt 0 _ rfl w.heap.size (by simp [blkC])).1
      clear hcl1 hcl0 hwb hwl hT hil hbm
      have hTT : (T == T) = true := by simp
      rw [hws]
      clear hws
      obtain ⟨d0, d1, d2, d3, d4, fz⟩ := row5 (G.get 0 rfl)
      rcases hj with hj | hj | hj | hj | hj
      · by_cases hA : c0 < 0
        · have hB : c0 < 12 := by omega
          have hsb : sBound c0 = 0 := sBound_neg _ hA
          have hcnt : cnt xs i 0 = 0 := by rw [HI.out, HA.out]; simp [hsb]
          have m0 : wr.cell? ⟨mb, 0, none⟩ = some (.int .i64 (0)) := by rw [blk_cell (G.get 1 rfl), ← hcnt]; rfl
          clear hcnt
          have hmo : sTotal 1 c1 c2 c3 c4 = T + sWords 0 := by
            rw [← TT.out]
            unfold sTotal
            have : sBound 1 = sBound c0 + 1 := by rw [hsb]; rfl
            rw [this, sWords_0]
            omega
          have HM := Lib.hid hmo
          have hwj := sWords_bd 0
          have hne : (T + sWords 0 != T + sWords 0) = false := by simp
          have hwr : IntKind.i64.wrap (T + sWords 0) = T + sWords 0 := wrapi64_id _ (by omega) (by omega)
          have hwr2 : wrap64 (T + sWords 0) = T + sWords 0 := wrap64_id _ (by omega) (by omega)
          clear hmo hsb
          go_wp2_with fail
          have G3 := (G.blkNew #[.int .i64 1, .int .i64 c1, .int .i64 c2, .int .i64 c3, .int .i64 c4] 42)
          refine (Total_c 1 c1 c2 c3 c4 _).mono ?_
          rw [HM.out]
          rintro e w3 ⟨rfl, b3⟩
          have G4 := G3.up b3
          have m3 := (b3.cell (p := ⟨mb, 0, none⟩) (by simp; omega)).trans (((Below.refl _ wr).alloc (Nat.le_refl _) _).cell (p := ⟨mb, 0, none⟩) mbl |>.trans m0)
          clear d0 d1 d2 d3 d4 fz b3 G3 m0
          go_wp2_with fail
          refine (Words_c 0 _).mono ?_
          rintro e w4 ⟨rfl, dn, rfl⟩
          have G5 := G4.drewN dn
          have m5 : (w3.drewN dn).cell? ⟨mb, 0, none⟩ = some (.int .i64 (0)) := m3
          clear G4 m3
          go_wp2_with fail
          clear hwj hne HM
          obtain ⟨W, HW, eW⟩ := G5.name
          rw [← eW.out] at m5 ⊢
          have HD := HW.drew
          have mbW : mb < W.drew.heap.size := (HW.lt 1 _ rfl mb (by simp [blkC])).1
          have m6 : W.drew.cell? ⟨mb, 0, none⟩ = some (.int .i64 (0)) := m5
          obtain ⟨x0, x1, x2, x3, x4, fx⟩ := row5 (HD.get 0 rfl)
          clear eW G5 m5 G
          go_region_held3 (fun w' => w'.cell? ⟨w.heap.size, 0, none⟩ = some (.int .i64 c0) ∧ w'.cell? ⟨w.heap.size, 1, none⟩ = some (.int .i64 c1) ∧ w'.cell? ⟨w.heap.size, 2, none⟩ = some (.int .i64 c2) ∧ w'.cell? ⟨w.heap.size, 3, none⟩ = some (.int .i64 c3) ∧ w'.cell? ⟨w.heap.size, 4, none⟩ = some (.int .i64 c4) ∧ w'.cell? ⟨mb, 0, none⟩ = some (.int .i64 (0))) (first | (refine ⟨?_, ?_, ?_, ?_, ?_, ?_⟩ <;> (with_reducible assumption))) (first | (go_at_call 35; refine (Total_c c0 c1 c2 c3 c4 _).mono ?_; rw [TT.out]; rintro e v3 ⟨rfl, b3⟩; have H3 := HD.up b3; obtain ⟨y0, y1, y2, y3, y4, fy⟩ := row5 (H3.get 0 rfl); have m7 := (b3.cell (p := ⟨mb, 0, none⟩) mbW).trans m6; have mb3 := Nat.lt_of_lt_of_le mbW b3.size) | (go_at_call 36; refine (Class_c c0 c1 c2 c3 c4 _ (by first | omega | (rw [hN1]; omega)) _).mono ?_; (first | rw [CL.out.1] | rw [hN1, CL.out.1]); rintro e v4 ⟨rfl, b4⟩; have H4 := H3.up b4; obtain ⟨z0, z1, z2, z3, z4, fz⟩ := row5 (H4.get 0 rfl); have m8 := (b4.cell (p := ⟨mb, 0, none⟩) mb3).trans m7; have mb4 := Nat.lt_of_lt_of_le mb3 b4.size) | (go_at_call 36; refine (Class_c c0 c1 c2 c3 c4 _ (by omega) _).mono ?_; rw [CL.out.2]; rintro e v5 ⟨rfl, b5⟩; have H5 := H4.up b5; obtain ⟨q0, q1, q2, q3, q4, fq⟩ := row5 (H5.get 0 rfl); have m9 := (b5.cell (p := ⟨mb, 0, none⟩) mb4).trans m8))
          all_goals (go_wp2_with fail)
          all_goals (go_ret; exact ⟨by first | rfl | (simp; done) | (simp; omega), H5.below⟩)
        · by_cases hB : c0 < 12
          · have hB2 : 0 ≤ c0 := by omega
            have hsb : sBound c0 = c0 := sBound_mid _ (by omega) (by omega)
            have hcnt : cnt xs i 0 = c0 := by rw [HI.out, HA.out]; simp [hsb]
            have m0 : wr.cell? ⟨mb, 0, none⟩ = some (.int .i64 (c0)) := by rw [blk_cell (G.get 1 rfl), ← hcnt]; rfl
            clear hcnt
            have hmo : sTotal (c0 + 1) c1 c2 c3 c4 = T + sWords 0 := by
              rw [← TT.out]
              unfold sTotal
              have : sBound (c0 + 1) = sBound c0 + 1 := by rw [hsb]; exact sBound_mid _ (by omega) (by omega)
              rw [this, sWords_0]
              omega
            have HM := Lib.hid hmo
            have hwj := sWords_bd 0
            have hne : (T + sWords 0 != T + sWords 0) = false := by simp
            have hwr : IntKind.i64.wrap (T + sWords 0) = T + sWords 0 := wrapi64_id _ (by omega) (by omega)
            have hwr2 : wrap64 (T + sWords 0) = T + sWords 0 := wrap64_id _ (by omega) (by omega)
            clear hmo hsb
            go_wp2_with fail
            have G3 := (G.blkNew #[.int .i64 (c0 + 1), .int .i64 c1, .int .i64 c2, .int .i64 c3, .int .i64 c4] 42)
            refine (Total_c (c0 + 1) c1 c2 c3 c4 _).mono ?_
            rw [HM.out]
            rintro e w3 ⟨rfl, b3⟩
            have G4 := G3.up b3
            have m3 := (b3.cell (p := ⟨mb, 0, none⟩) (by simp; omega)).trans (((Below.refl _ wr).alloc (Nat.le_refl _) _).cell (p := ⟨mb, 0, none⟩) mbl |>.trans m0)
            clear d0 d1 d2 d3 d4 fz b3 G3 m0
            go_wp2_with fail
            refine (Words_c 0 _).mono ?_
            rintro e w4 ⟨rfl, dn, rfl⟩
            have G5 := G4.drewN dn
            have m5 : (w3.drewN dn).cell? ⟨mb, 0, none⟩ = some (.int .i64 (c0)) := m3
            clear G4 m3
            go_wp2_with fail
            clear hwj hne HM
            obtain ⟨W, HW, eW⟩ := G5.name
            rw [← eW.out] at m5 ⊢
            have HD := HW.drew
            have mbW : mb < W.drew.heap.size := (HW.lt 1 _ rfl mb (by simp [blkC])).1
            have m6 : W.drew.cell? ⟨mb, 0, none⟩ = some (.int .i64 (c0)) := m5
            obtain ⟨x0, x1, x2, x3, x4, fx⟩ := row5 (HD.get 0 rfl)
            clear eW G5 m5 G
            go_region_held3 (fun w' => w'.cell? ⟨w.heap.size, 0, none⟩ = some (.int .i64 c0) ∧ w'.cell? ⟨w.heap.size, 1, none⟩ = some (.int .i64 c1) ∧ w'.cell? ⟨w.heap.size, 2, none⟩ = some (.int .i64 c2) ∧ w'.cell? ⟨w.heap.size, 3, none⟩ = some (.int .i64 c3) ∧ w'.cell? ⟨w.heap.size, 4, none⟩ = some (.int .i64 c4) ∧ w'.cell? ⟨mb, 0, none⟩ = some (.int .i64 (c0))) (first | (refine ⟨?_, ?_, ?_, ?_, ?_, ?_⟩ <;> (with_reducible assumption))) (first | (go_at_call 35; refine (Total_c c0 c1 c2 c3 c4 _).mono ?_; rw [TT.out]; rintro e v3 ⟨rfl, b3⟩; have H3 := HD.up b3; obtain ⟨y0, y1, y2, y3, y4, fy⟩ := row5 (H3.get 0 rfl); have m7 := (b3.cell (p := ⟨mb, 0, none⟩) mbW).trans m6; have mb3 := Nat.lt_of_lt_of_le mbW b3.size) | (go_at_call 36; refine (Class_c c0 c1 c2 c3 c4 _ (by first | omega | (rw [hN1]; omega)) _).mono ?_; (first | rw [CL.out.1] | rw [hN1, CL.out.1]); rintro e v4 ⟨rfl, b4⟩; have H4 := H3.up b4; obtain ⟨z0, z1, z2, z3, z4, fz⟩ := row5 (H4.get 0 rfl); have m8 := (b4.cell (p := ⟨mb, 0, none⟩) mb3).trans m7; have mb4 := Nat.lt_of_lt_of_le mb3 b4.size) | (go_at_call 36; refine (Class_c c0 c1 c2 c3 c4 _ (by omega) _).mono ?_; rw [CL.out.2]; rintro e v5 ⟨rfl, b5⟩; have H5 := H4.up b5; obtain ⟨q0, q1, q2, q3, q4, fq⟩ := row5 (H5.get 0 rfl); have m9 := (b5.cell (p := ⟨mb, 0, none⟩) mb4).trans m8))
            all_goals (go_wp2_with fail)
            all_goals (go_ret; exact ⟨by first | rfl | (simp; done) | (simp; omega), H5.below⟩)
          · have hB2 : 0 ≤ c0 := by omega
            have hsb : sBound c0 = 12 := by unfold sBound; rw [if_neg (by omega), if_neg (by omega)]
            have hcnt : cnt xs i 0 = 12 := by rw [HI.out, HA.out]; simp [hsb]
            have m0 : wr.cell? ⟨mb, 0, none⟩ = some (.int .i64 (12)) := by rw [blk_cell (G.get 1 rfl), ← hcnt]; rfl
            clear hcnt
            clear hsb
            go_wp2_with fail
            have G5 := G.blkNew #[.int .i64 c0, .int .i64 c1, .int .i64 c2, .int .i64 c3, .int .i64 c4] 42
            have m5 := ((Below.refl _ wr).alloc (Nat.le_refl _) (.cells #[.int .i64 c0, .int .i64 c1, .int .i64 c2, .int .i64 c3, .int .i64 c4] 42)).cell (p := ⟨mb, 0, none⟩) mbl |>.trans m0
            clear d0 d1 d2 d3 d4 fz m0
            obtain ⟨W, HW, eW⟩ := G5.name
            rw [← eW.out] at m5 ⊢
            have HD := HW.drew
            have mbW : mb < W.drew.heap.size := (HW.lt 1 _ rfl mb (by simp [blkC])).1
            have m6 : W.drew.cell? ⟨mb, 0, none⟩ = some (.int .i64 (12)) := m5
            obtain ⟨x0, x1, x2, x3, x4, fx⟩ := row5 (HD.get 0 rfl)
            clear eW G5 m5 G
            go_region_held3 (fun w' => w'.cell? ⟨w.heap.size, 0, none⟩ = some (.int .i64 c0) ∧ w'.cell? ⟨w.heap.size, 1, none⟩ = some (.int .i64 c1) ∧ w'.cell? ⟨w.heap.size, 2, none⟩ = some (.int .i64 c2) ∧ w'.cell? ⟨w.heap.size, 3, none⟩ = some (.int .i64 c3) ∧ w'.cell? ⟨w.heap.size, 4, none⟩ = some (.int .i64 c4) ∧ w'.cell? ⟨mb, 0, none⟩ = some (.int .i64 (12))) (first | (refine ⟨?_, ?_, ?_, ?_, ?_, ?_⟩ <;> (with_reducible assumption))) (first | (go_at_call 35; refine (Total_c c0 c1 c2 c3 c4 _).mono ?_; rw [TT.out]; rintro e v3 ⟨rfl, b3⟩; have H3 := HD.up b3; obtain ⟨y0, y1, y2, y3, y4, fy⟩ := row5 (H3.get 0 rfl); have m7 := (b3.cell (p := ⟨mb, 0, none⟩) mbW).trans m6; have mb3 := Nat.lt_of_lt_of_le mbW b3.size) | (go_at_call 36; refine (Class_c c0 c1 c2 c3 c4 _ (by first | omega | (rw [hN1]; omega)) _).mono ?_; (first | rw [CL.out.1] | rw [hN1, CL.out.1]); rintro e v4 ⟨rfl, b4⟩; have H4 := H3.up b4; obtain ⟨z0, z1, z2, z3, z4, fz⟩ := row5 (H4.get 0 rfl); have m8 := (b4.cell (p := ⟨mb, 0, none⟩) mb3).trans m7; have mb4 := Nat.lt_of_lt_of_le mb3 b4.size) | (go_at_call 36; refine (Class_c c0 c1 c2 c3 c4 _ (by omega) _).mono ?_; rw [CL.out.2]; rintro e v5 ⟨rfl, b5⟩; have H5 := H4.up b5; obtain ⟨q0, q1, q2, q3, q4, fq⟩ := row5 (H5.get 0 rfl); have m9 := (b5.cell (p := ⟨mb, 0, none⟩) mb4).trans m8))
            all_goals (go_wp2_with fail)
            all_goals (go_ret; exact ⟨by first | rfl | (simp; done) | (simp; omega), H5.below⟩)
      · by_cases hA : c1 < 0
        · have hB : c1 < 12 := by omega
          have hsb : sBound c1 = 0 := sBound_neg _ hA
          have hcnt : cnt xs i 1 = 0 := by rw [HI.out, HA.out]; simp [hsb]
          have m0 : wr.cell? ⟨mb, 1, none⟩ = some (.int .i64 (0)) := by rw [blk_cell (G.get 1 rfl), ← hcnt]; rfl
          clear hcnt
          have hmo : sTotal c0 1 c2 c3 c4 = T + sWords 1 := by
            rw [← TT.out]
            unfold sTotal
            have : sBound 1 = sBound c1 + 1 := by rw [hsb]; rfl
            rw [this, sWords_1]
            omega
          have HM := Lib.hid hmo
          have hwj := sWords_bd 1
          have hne : (T + sWords 1 != T + sWords 1) = false := by simp
          have hwr : IntKind.i64.wrap (T + sWords 1) = T + sWords 1 := wrapi64_id _ (by omega) (by omega)
          have hwr2 : wrap64 (T + sWords 1) = T + sWords 1 := wrap64_id _ (by omega) (by omega)
          clear hmo hsb
          go_wp2_with fail
          have G3 := (G.blkNew #[.int .i64 c0, .int .i64 1, .int .i64 c2, .int .i64 c3, .int .i64 c4] 42)
          refine (Total_c c0 1 c2 c3 c4 _).mono ?_
          rw [HM.out]
          rintro e w3 ⟨rfl, b3⟩
          have G4 := G3.up b3
          have m3 := (b3.cell (p := ⟨mb, 1, none⟩) (by simp; omega)).trans (((Below.refl _ wr).alloc (Nat.le_refl _) _).cell (p := ⟨mb, 1, none⟩) mbl |>.trans m0)
          clear d0 d1 d2 d3 d4 fz b3 G3 m0
          go_wp2_with fail
          refine (Words_c 1 _).mono ?_
          rintro e w4 ⟨rfl, dn, rfl⟩
          have G5 := G4.drewN dn
          have m5 : (w3.drewN dn).cell? ⟨mb, 1, none⟩ = some (.int .i64 (0)) := m3
          clear G4 m3
          go_wp2_with fail
          clear hwj hne HM
          obtain ⟨W, HW, eW⟩ := G5.name
          rw [← eW.out] at m5 ⊢
          have HD := HW.drew
          have mbW : mb < W.drew.heap.size := (HW.lt 1 _ rfl mb (by simp [blkC])).1
          have m6 : W.drew.cell? ⟨mb, 1, none⟩ = some (.int .i64 (0)) := m5
          obtain ⟨x0, x1, x2, x3, x4, fx⟩ := row5 (HD.get 0 rfl)
          clear eW G5 m5 G
          go_region_held3 (fun w' => w'.cell? ⟨w.heap.size, 0, none⟩ = some (.int .i64 c0) ∧ w'.cell? ⟨w.heap.size, 1, none⟩ = some (.int .i64 c1) ∧ w'.cell? ⟨w.heap.size, 2, none⟩ = some (.int .i64 c2) ∧ w'.cell? ⟨w.heap.size, 3, none⟩ = some (.int .i64 c3) ∧ w'.cell? ⟨w.heap.size, 4, none⟩ = some (.int .i64 c4) ∧ w'.cell? ⟨mb, 1, none⟩ = some (.int .i64 (0))) (first | (refine ⟨?_, ?_, ?_, ?_, ?_, ?_⟩ <;> (with_reducible assumption))) (first | (go_at_call 35; refine (Total_c c0 c1 c2 c3 c4 _).mono ?_; rw [TT.out]; rintro e v3 ⟨rfl, b3⟩; have H3 := HD.up b3; obtain ⟨y0, y1, y2, y3, y4, fy⟩ := row5 (H3.get 0 rfl); have m7 := (b3.cell (p := ⟨mb, 1, none⟩) mbW).trans m6; have mb3 := Nat.lt_of_lt_of_le mbW b3.size) | (go_at_call 36; refine (Class_c c0 c1 c2 c3 c4 _ (by first | omega | (rw [hN1]; omega)) _).mono ?_; (first | rw [CL.out.1] | rw [hN1, CL.out.1]); rintro e v4 ⟨rfl, b4⟩; have H4 := H3.up b4; obtain ⟨z0, z1, z2, z3, z4, fz⟩ := row5 (H4.get 0 rfl); have m8 := (b4.cell (p := ⟨mb, 1, none⟩) mb3).trans m7; have mb4 := Nat.lt_of_lt_of_le mb3 b4.size) | (go_at_call 36; refine (Class_c c0 c1 c2 c3 c4 _ (by omega) _).mono ?_; rw [CL.out.2]; rintro e v5 ⟨rfl, b5⟩; have H5 := H4.up b5; obtain ⟨q0, q1, q2, q3, q4, fq⟩ := row5 (H5.get 0 rfl); have m9 := (b5.cell (p := ⟨mb, 1, none⟩) mb4).trans m8))
          all_goals (go_wp2_with fail)
          all_goals (go_ret; exact ⟨by first | rfl | (simp; done) | (simp; omega), H5.below⟩)
        · by_cases hB : c1 < 12
          · have hB2 : 0 ≤ c1 := by omega
            have hsb : sBound c1 = c1 := sBound_mid _ (by omega) (by omega)
            have hcnt : cnt xs i 1 = c1 := by rw [HI.out, HA.out]; simp [hsb]
            have m0 : wr.cell? ⟨mb, 1, none⟩ = some (.int .i64 (c1)) := by rw [blk_cell (G.get 1 rfl), ← hcnt]; rfl
            clear hcnt
            have hmo : sTotal c0 (c1 + 1) c2 c3 c4 = T + sWords 1 := by
              rw [← TT.out]
              unfold sTotal
              have : sBound (c1 + 1) = sBound c1 + 1 := by rw [hsb]; exact sBound_mid _ (by omega) (by omega)
              rw [this, sWords_1]
              omega
            have HM := Lib.hid hmo
            have hwj := sWords_bd 1
            have hne : (T + sWords 1 != T + sWords 1) = false := by simp
            have hwr : IntKind.i64.wrap (T + sWords 1) = T + sWords 1 := wrapi64_id _ (by omega) (by omega)
            have hwr2 : wrap64 (T + sWords 1) = T + sWords 1 := wrap64_id _ (by omega) (by omega)
            clear hmo hsb
            go_wp2_with fail
            have G3 := (G.blkNew #[.int .i64 c0, .int .i64 (c1 + 1), .int .i64 c2, .int .i64 c3, .int .i64 c4] 42)
            refine (Total_c c0 (c1 + 1) c2 c3 c4 _).mono ?_
            rw [HM.out]
            rintro e w3 ⟨rfl, b3⟩
            have G4 := G3.up b3
            have m3 := (b3.cell (p := ⟨mb, 1, none⟩) (by simp; omega)).trans (((Below.refl _ wr).alloc (Nat.le_refl _) _).cell (p := ⟨mb, 1, none⟩) mbl |>.trans m0)
            clear d0 d1 d2 d3 d4 fz b3 G3 m0
            go_wp2_with fail
            refine (Words_c 1 _).mono ?_
            rintro e w4 ⟨rfl, dn, rfl⟩
            have G5 := G4.drewN dn
            have m5 : (w3.drewN dn).cell? ⟨mb, 1, none⟩ = some (.int .i64 (c1)) := m3
            clear G4 m3
            go_wp2_with fail
            clear hwj hne HM
            obtain ⟨W, HW, eW⟩ := G5.name
            rw [← eW.out] at m5 ⊢
            have HD := HW.drew
            have mbW : mb < W.drew.heap.size := (HW.lt 1 _ rfl mb (by simp [blkC])).1
            have m6 : W.drew.cell? ⟨mb, 1, none⟩ = some (.int .i64 (c1)) := m5
            obtain ⟨x0, x1, x2, x3, x4, fx⟩ := row5 (HD.get 0 rfl)
            clear eW G5 m5 G
            go_region_held3 (fun w' => w'.cell? ⟨w.heap.size, 0, none⟩ = some (.int .i64 c0) ∧ w'.cell? ⟨w.heap.size, 1, none⟩ = some (.int .i64 c1) ∧ w'.cell? ⟨w.heap.size, 2, none⟩ = some (.int .i64 c2) ∧ w'.cell? ⟨w.heap.size, 3, none⟩ = some (.int .i64 c3) ∧ w'.cell? ⟨w.heap.size, 4, none⟩ = some (.int .i64 c4) ∧ w'.cell? ⟨mb, 1, none⟩ = some (.int .i64 (c1))) (first | (refine ⟨?_, ?_, ?_, ?_, ?_, ?_⟩ <;> (with_reducible assumption))) (first | (go_at_call 35; refine (Total_c c0 c1 c2 c3 c4 _).mono ?_; rw [TT.out]; rintro e v3 ⟨rfl, b3⟩; have H3 := HD.up b3; obtain ⟨y0, y1, y2, y3, y4, fy⟩ := row5 (H3.get 0 rfl); have m7 := (b3.cell (p := ⟨mb, 1, none⟩) mbW).trans m6; have mb3 := Nat.lt_of_lt_of_le mbW b3.size) | (go_at_call 36; refine (Class_c c0 c1 c2 c3 c4 _ (by first | omega | (rw [hN1]; omega)) _).mono ?_; (first | rw [CL.out.1] | rw [hN1, CL.out.1]); rintro e v4 ⟨rfl, b4⟩; have H4 := H3.up b4; obtain ⟨z0, z1, z2, z3, z4, fz⟩ := row5 (H4.get 0 rfl); have m8 := (b4.cell (p := ⟨mb, 1, none⟩) mb3).trans m7; have mb4 := Nat.lt_of_lt_of_le mb3 b4.size) | (go_at_call 36; refine (Class_c c0 c1 c2 c3 c4 _ (by omega) _).mono ?_; rw [CL.out.2]; rintro e v5 ⟨rfl, b5⟩; have H5 := H4.up b5; obtain ⟨q0, q1, q2, q3, q4, fq⟩ := row5 (H5.get 0 rfl); have m9 := (b5.cell (p := ⟨mb, 1, none⟩) mb4).trans m8))
            all_goals (go_wp2_with fail)
            all_goals (go_ret; exact ⟨by first | rfl | (simp; done) | (simp; omega), H5.below⟩)
          · have hB2 : 0 ≤ c1 := by omega
            have hsb : sBound c1 = 12 := by unfold sBound; rw [if_neg (by omega), if_neg (by omega)]
            have hcnt : cnt xs i 1 = 12 := by rw [HI.out, HA.out]; simp [hsb]
            have m0 : wr.cell? ⟨mb, 1, none⟩ = some (.int .i64 (12)) := by rw [blk_cell (G.get 1 rfl), ← hcnt]; rfl
            clear hcnt
            clear hsb
            go_wp2_with fail
            have G5 := G.blkNew #[.int .i64 c0, .int .i64 c1, .int .i64 c2, .int .i64 c3, .int .i64 c4] 42
            have m5 := ((Below.refl _ wr).alloc (Nat.le_refl _) (.cells #[.int .i64 c0, .int .i64 c1, .int .i64 c2, .int .i64 c3, .int .i64 c4] 42)).cell (p := ⟨mb, 1, none⟩) mbl |>.trans m0
            clear d0 d1 d2 d3 d4 fz m0
            obtain ⟨W, HW, eW⟩ := G5.name
            rw [← eW.out] at m5 ⊢
            have HD := HW.drew
            have mbW : mb < W.drew.heap.size := (HW.lt 1 _ rfl mb (by simp [blkC])).1
            have m6 : W.drew.cell? ⟨mb, 1, none⟩ = some (.int .i64 (12)) := m5
            obtain ⟨x0, x1, x2, x3, x4, fx⟩ := row5 (HD.get 0 rfl)
            clear eW G5 m5 G
            go_region_held3 (fun w' => w'.cell? ⟨w.heap.size, 0, none⟩ = some (.int .i64 c0) ∧ w'.cell? ⟨w.heap.size, 1, none⟩ = some (.int .i64 c1) ∧ w'.cell? ⟨w.heap.size, 2, none⟩ = some (.int .i64 c2) ∧ w'.cell? ⟨w.heap.size, 3, none⟩ = some (.int .i64 c3) ∧ w'.cell? ⟨w.heap.size, 4, none⟩ = some (.int .i64 c4) ∧ w'.cell? ⟨mb, 1, none⟩ = some (.int .i64 (12))) (first | (refine ⟨?_, ?_, ?_, ?_, ?_, ?_⟩ <;> (with_reducible assumption))) (first | (go_at_call 35; refine (Total_c c0 c1 c2 c3 c4 _).mono ?_; rw [TT.out]; rintro e v3 ⟨rfl, b3⟩; have H3 := HD.up b3; obtain ⟨y0, y1, y2, y3, y4, fy⟩ := row5 (H3.get 0 rfl); have m7 := (b3.cell (p := ⟨mb, 1, none⟩) mbW).trans m6; have mb3 := Nat.lt_of_lt_of_le mbW b3.size) | (go_at_call 36; refine (Class_c c0 c1 c2 c3 c4 _ (by first | omega | (rw [hN1]; omega)) _).mono ?_; (first | rw [CL.out.1] | rw [hN1, CL.out.1]); rintro e v4 ⟨rfl, b4⟩; have H4 := H3.up b4; obtain ⟨z0, z1, z2, z3, z4, fz⟩ := row5 (H4.get 0 rfl); have m8 := (b4.cell (p := ⟨mb, 1, none⟩) mb3).trans m7; have mb4 := Nat.lt_of_lt_of_le mb3 b4.size) | (go_at_call 36; refine (Class_c c0 c1 c2 c3 c4 _ (by omega) _).mono ?_; rw [CL.out.2]; rintro e v5 ⟨rfl, b5⟩; have H5 := H4.up b5; obtain ⟨q0, q1, q2, q3, q4, fq⟩ := row5 (H5.get 0 rfl); have m9 := (b5.cell (p := ⟨mb, 1, none⟩) mb4).trans m8))
            all_goals (go_wp2_with fail)
            all_goals (go_ret; exact ⟨by first | rfl | (simp; done) | (simp; omega), H5.below⟩)
      · by_cases hA : c2 < 0
        · have hB : c2 < 12 := by omega
          have hsb : sBound c2 = 0 := sBound_neg _ hA
          have hcnt : cnt xs i 2 = 0 := by rw [HI.out, HA.out]; simp [hsb]
          have m0 : wr.cell? ⟨mb, 2, none⟩ = some (.int .i64 (0)) := by rw [blk_cell (G.get 1 rfl), ← hcnt]; rfl
          clear hcnt
          have hmo : sTotal c0 c1 1 c3 c4 = T + sWords 2 := by
            rw [← TT.out]
            unfold sTotal
            have : sBound 1 = sBound c2 + 1 := by rw [hsb]; rfl
            rw [this, sWords_2]
            omega
          have HM := Lib.hid hmo
          have hwj := sWords_bd 2
          have hne : (T + sWords 2 != T + sWords 2) = false := by simp
          have hwr : IntKind.i64.wrap (T + sWords 2) = T + sWords 2 := wrapi64_id _ (by omega) (by omega)
          have hwr2 : wrap64 (T + sWords 2) = T + sWords 2 := wrap64_id _ (by omega) (by omega)
          clear hmo hsb
          go_wp2_with fail
          have G3 := (G.blkNew #[.int .i64 c0, .int .i64 c1, .int .i64 1, .int .i64 c3, .int .i64 c4] 42)
          refine (Total_c c0 c1 1 c3 c4 _).mono ?_
          rw [HM.out]
          rintro e w3 ⟨rfl, b3⟩
          have G4 := G3.up b3
          have m3 := (b3.cell (p := ⟨mb, 2, none⟩) (by simp; omega)).trans (((Below.refl _ wr).alloc (Nat.le_refl _) _).cell (p := ⟨mb, 2, none⟩) mbl |>.trans m0)
          clear d0 d1 d2 d3 d4 fz b3 G3 m0
          go_wp2_with fail
          refine (Words_c 2 _).mono ?_
          rintro e w4 ⟨rfl, dn, rfl⟩
          have G5 := G4.drewN dn
          have m5 : (w3.drewN dn).cell? ⟨mb, 2, none⟩ = some (.int .i64 (0)) := m3
          clear G4 m3
          go_wp2_with fail
          clear hwj hne HM
          obtain ⟨W, HW, eW⟩ := G5.name
          rw [← eW.out] at m5 ⊢
          have HD := HW.drew
          have mbW : mb < W.drew.heap.size := (HW.lt 1 _ rfl mb (by simp [blkC])).1
          have m6 : W.drew.cell? ⟨mb, 2, none⟩ = some (.int .i64 (0)) := m5
          obtain ⟨x0, x1, x2, x3, x4, fx⟩ := row5 (HD.get 0 rfl)
          clear eW G5 m5 G
          go_region_held3 (fun w' => w'.cell? ⟨w.heap.size, 0, none⟩ = some (.int .i64 c0) ∧ w'.cell? ⟨w.heap.size, 1, none⟩ = some (.int .i64 c1) ∧ w'.cell? ⟨w.heap.size, 2, none⟩ = some (.int .i64 c2) ∧ w'.cell? ⟨w.heap.size, 3, none⟩ = some (.int .i64 c3) ∧ w'.cell? ⟨w.heap.size, 4, none⟩ = some (.int .i64 c4) ∧ w'.cell? ⟨mb, 2, none⟩ = some (.int .i64 (0))) (first | (refine ⟨?_, ?_, ?_, ?_, ?_, ?_⟩ <;> (with_reducible assumption))) (first | (go_at_call 35; refine (Total_c c0 c1 c2 c3 c4 _).mono ?_; rw [TT.out]; rintro e v3 ⟨rfl, b3⟩; have H3 := HD.up b3; obtain ⟨y0, y1, y2, y3, y4, fy⟩ := row5 (H3.get 0 rfl); have m7 := (b3.cell (p := ⟨mb, 2, none⟩) mbW).trans m6; have mb3 := Nat.lt_of_lt_of_le mbW b3.size) | (go_at_call 36; refine (Class_c c0 c1 c2 c3 c4 _ (by first | omega | (rw [hN1]; omega)) _).mono ?_; (first | rw [CL.out.1] | rw [hN1, CL.out.1]); rintro e v4 ⟨rfl, b4⟩; have H4 := H3.up b4; obtain ⟨z0, z1, z2, z3, z4, fz⟩ := row5 (H4.get 0 rfl); have m8 := (b4.cell (p := ⟨mb, 2, none⟩) mb3).trans m7; have mb4 := Nat.lt_of_lt_of_le mb3 b4.size) | (go_at_call 36; refine (Class_c c0 c1 c2 c3 c4 _ (by omega) _).mono ?_; rw [CL.out.2]; rintro e v5 ⟨rfl, b5⟩; have H5 := H4.up b5; obtain ⟨q0, q1, q2, q3, q4, fq⟩ := row5 (H5.get 0 rfl); have m9 := (b5.cell (p := ⟨mb, 2, none⟩) mb4).trans m8))
          all_goals (go_wp2_with fail)
          all_goals (go_ret; exact ⟨by first | rfl | (simp; done) | (simp; omega), H5.below⟩)
        · by_cases hB : c2 < 12
          · have hB2 : 0 ≤ c2 := by omega
            have hsb : sBound c2 = c2 := sBound_mid _ (by omega) (by omega)
            have hcnt : cnt xs i 2 = c2 := by rw [HI.out, HA.out]; simp [hsb]
            have m0 : wr.cell? ⟨mb, 2, none⟩ = some (.int .i64 (c2)) := by rw [blk_cell (G.get 1 rfl), ← hcnt]; rfl
            clear hcnt
            have hmo : sTotal c0 c1 (c2 + 1) c3 c4 = T + sWords 2 := by
              rw [← TT.out]
              unfold sTotal
              have : sBound (c2 + 1) = sBound c2 + 1 := by rw [hsb]; exact sBound_mid _ (by omega) (by omega)
              rw [this, sWords_2]
              omega
            have HM := Lib.hid hmo
            have hwj := sWords_bd 2
            have hne : (T + sWords 2 != T + sWords 2) = false := by simp
            have hwr : IntKind.i64.wrap (T + sWords 2) = T + sWords 2 := wrapi64_id _ (by omega) (by omega)
            have hwr2 : wrap64 (T + sWords 2) = T + sWords 2 := wrap64_id _ (by omega) (by omega)
            clear hmo hsb
            go_wp2_with fail
            have G3 := (G.blkNew #[.int .i64 c0, .int .i64 c1, .int .i64 (c2 + 1), .int .i64 c3, .int .i64 c4] 42)
            refine (Total_c c0 c1 (c2 + 1) c3 c4 _).mono ?_
            rw [HM.out]
            rintro e w3 ⟨rfl, b3⟩
            have G4 := G3.up b3
            have m3 := (b3.cell (p := ⟨mb, 2, none⟩) (by simp; omega)).trans (((Below.refl _ wr).alloc (Nat.le_refl _) _).cell (p := ⟨mb, 2, none⟩) mbl |>.trans m0)
            clear d0 d1 d2 d3 d4 fz b3 G3 m0
            go_wp2_with fail
            refine (Words_c 2 _).mono ?_
            rintro e w4 ⟨rfl, dn, rfl⟩
            have G5 := G4.drewN dn
            have m5 : (w3.drewN dn).cell? ⟨mb, 2, none⟩ = some (.int .i64 (c2)) := m3
            clear G4 m3
            go_wp2_with fail
            clear hwj hne HM
            obtain ⟨W, HW, eW⟩ := G5.name
            rw [← eW.out] at m5 ⊢
            have HD := HW.drew
            have mbW : mb < W.drew.heap.size := (HW.lt 1 _ rfl mb (by simp [blkC])).1
            have m6 : W.drew.cell? ⟨mb, 2, none⟩ = some (.int .i64 (c2)) := m5
            obtain ⟨x0, x1, x2, x3, x4, fx⟩ := row5 (HD.get 0 rfl)
            clear eW G5 m5 G
            go_region_held3 (fun w' => w'.cell? ⟨w.heap.size, 0, none⟩ = some (.int .i64 c0) ∧ w'.cell? ⟨w.heap.size, 1, none⟩ = some (.int .i64 c1) ∧ w'.cell? ⟨w.heap.size, 2, none⟩ = some (.int .i64 c2) ∧ w'.cell? ⟨w.heap.size, 3, none⟩ = some (.int .i64 c3) ∧ w'.cell? ⟨w.heap.size, 4, none⟩ = some (.int .i64 c4) ∧ w'.cell? ⟨mb, 2, none⟩ = some (.int .i64 (c2))) (first | (refine ⟨?_, ?_, ?_, ?_, ?_, ?_⟩ <;> (with_reducible assumption))) (first | (go_at_call 35; refine (Total_c c0 c1 c2 c3 c4 _).mono ?_; rw [TT.out]; rintro e v3 ⟨rfl, b3⟩; have H3 := HD.up b3; obtain ⟨y0, y1, y2, y3, y4, fy⟩ := row5 (H3.get 0 rfl); have m7 := (b3.cell (p := ⟨mb, 2, none⟩) mbW).trans m6; have mb3 := Nat.lt_of_lt_of_le mbW b3.size) | (go_at_call 36; refine (Class_c c0 c1 c2 c3 c4 _ (by first | omega | (rw [hN1]; omega)) _).mono ?_; (first | rw [CL.out.1] | rw [hN1, CL.out.1]); rintro e v4 ⟨rfl, b4⟩; have H4 := H3.up b4; obtain ⟨z0, z1, z2, z3, z4, fz⟩ := row5 (H4.get 0 rfl); have m8 := (b4.cell (p := ⟨mb, 2, none⟩) mb3).trans m7; have mb4 := Nat.lt_of_lt_of_le mb3 b4.size) | (go_at_call 36; refine (Class_c c0 c1 c2 c3 c4 _ (by omega) _).mono ?_; rw [CL.out.2]; rintro e v5 ⟨rfl, b5⟩; have H5 := H4.up b5; obtain ⟨q0, q1, q2, q3, q4, fq⟩ := row5 (H5.get 0 rfl); have m9 := (b5.cell (p := ⟨mb, 2, none⟩) mb4).trans m8))
            all_goals (go_wp2_with fail)
            all_goals (go_ret; exact ⟨by first | rfl | (simp; done) | (simp; omega), H5.below⟩)
          · have hB2 : 0 ≤ c2 := by omega
            have hsb : sBound c2 = 12 := by unfold sBound; rw [if_neg (by omega), if_neg (by omega)]
            have hcnt : cnt xs i 2 = 12 := by rw [HI.out, HA.out]; simp [hsb]
            have m0 : wr.cell? ⟨mb, 2, none⟩ = some (.int .i64 (12)) := by rw [blk_cell (G.get 1 rfl), ← hcnt]; rfl
            clear hcnt
            clear hsb
            go_wp2_with fail
            have G5 := G.blkNew #[.int .i64 c0, .int .i64 c1, .int .i64 c2, .int .i64 c3, .int .i64 c4] 42
            have m5 := ((Below.refl _ wr).alloc (Nat.le_refl _) (.cells #[.int .i64 c0, .int .i64 c1, .int .i64 c2, .int .i64 c3, .int .i64 c4] 42)).cell (p := ⟨mb, 2, none⟩) mbl |>.trans m0
            clear d0 d1 d2 d3 d4 fz m0
            obtain ⟨W, HW, eW⟩ := G5.name
            rw [← eW.out] at m5 ⊢
            have HD := HW.drew
            have mbW : mb < W.drew.heap.size := (HW.lt 1 _ rfl mb (by simp [blkC])).1
            have m6 : W.drew.cell? ⟨mb, 2, none⟩ = some (.int .i64 (12)) := m5
            obtain ⟨x0, x1, x2, x3, x4, fx⟩ := row5 (HD.get 0 rfl)
            clear eW G5 m5 G
            go_region_held3 (fun w' => w'.cell? ⟨w.heap.size, 0, none⟩ = some (.int .i64 c0) ∧ w'.cell? ⟨w.heap.size, 1, none⟩ = some (.int .i64 c1) ∧ w'.cell? ⟨w.heap.size, 2, none⟩ = some (.int .i64 c2) ∧ w'.cell? ⟨w.heap.size, 3, none⟩ = some (.int .i64 c3) ∧ w'.cell? ⟨w.heap.size, 4, none⟩ = some (.int .i64 c4) ∧ w'.cell? ⟨mb, 2, none⟩ = some (.int .i64 (12))) (first | (refine ⟨?_, ?_, ?_, ?_, ?_, ?_⟩ <;> (with_reducible assumption))) (first | (go_at_call 35; refine (Total_c c0 c1 c2 c3 c4 _).mono ?_; rw [TT.out]; rintro e v3 ⟨rfl, b3⟩; have H3 := HD.up b3; obtain ⟨y0, y1, y2, y3, y4, fy⟩ := row5 (H3.get 0 rfl); have m7 := (b3.cell (p := ⟨mb, 2, none⟩) mbW).trans m6; have mb3 := Nat.lt_of_lt_of_le mbW b3.size) | (go_at_call 36; refine (Class_c c0 c1 c2 c3 c4 _ (by first | omega | (rw [hN1]; omega)) _).mono ?_; (first | rw [CL.out.1] | rw [hN1, CL.out.1]); rintro e v4 ⟨rfl, b4⟩; have H4 := H3.up b4; obtain ⟨z0, z1, z2, z3, z4, fz⟩ := row5 (H4.get 0 rfl); have m8 := (b4.cell (p := ⟨mb, 2, none⟩) mb3).trans m7; have mb4 := Nat.lt_of_lt_of_le mb3 b4.size) | (go_at_call 36; refine (Class_c c0 c1 c2 c3 c4 _ (by omega) _).mono ?_; rw [CL.out.2]; rintro e v5 ⟨rfl, b5⟩; have H5 := H4.up b5; obtain ⟨q0, q1, q2, q3, q4, fq⟩ := row5 (H5.get 0 rfl); have m9 := (b5.cell (p := ⟨mb, 2, none⟩) mb4).trans m8))
            all_goals (go_wp2_with fail)
            all_goals (go_ret; exact ⟨by first | rfl | (simp; done) | (simp; omega), H5.below⟩)
      · by_cases hA : c3 < 0
        · have hB : c3 < 12 := by omega
          have hsb : sBound c3 = 0 := sBound_neg _ hA
          have hcnt : cnt xs i 3 = 0 := by rw [HI.out, HA.out]; simp [hsb]
          have m0 : wr.cell? ⟨mb, 3, none⟩ = some (.int .i64 (0)) := by rw [blk_cell (G.get 1 rfl), ← hcnt]; rfl
          clear hcnt
          have hmo : sTotal c0 c1 c2 1 c4 = T + sWords 3 := by
            rw [← TT.out]
            unfold sTotal
            have : sBound 1 = sBound c3 + 1 := by rw [hsb]; rfl
            rw [this, sWords_3]
            omega
          have HM := Lib.hid hmo
          have hwj := sWords_bd 3
          have hne : (T + sWords 3 != T + sWords 3) = false := by simp
          have hwr : IntKind.i64.wrap (T + sWords 3) = T + sWords 3 := wrapi64_id _ (by omega) (by omega)
          have hwr2 : wrap64 (T + sWords 3) = T + sWords 3 := wrap64_id _ (by omega) (by omega)
          clear hmo hsb
          go_wp2_with fail
          have G3 := (G.blkNew #[.int .i64 c0, .int .i64 c1, .int .i64 c2, .int .i64 1, .int .i64 c4] 42)
          refine (Total_c c0 c1 c2 1 c4 _).mono ?_
          rw [HM.out]
          rintro e w3 ⟨rfl, b3⟩
          have G4 := G3.up b3
          have m3 := (b3.cell (p := ⟨mb, 3, none⟩) (by simp; omega)).trans (((Below.refl _ wr).alloc (Nat.le_refl _) _).cell (p := ⟨mb, 3, none⟩) mbl |>.trans m0)
          clear d0 d1 d2 d3 d4 fz b3 G3 m0
          go_wp2_with fail
          refine (Words_c 3 _).mono ?_
          rintro e w4 ⟨rfl, dn, rfl⟩
          have G5 := G4.drewN dn
          have m5 : (w3.drewN dn).cell? ⟨mb, 3, none⟩ = some (.int .i64 (0)) := m3
          clear G4 m3
          go_wp2_with fail
          clear hwj hne HM
          obtain ⟨W, HW, eW⟩ := G5.name
          rw [← eW.out] at m5 ⊢
          have HD := HW.drew
          have mbW : mb < W.drew.heap.size := (HW.lt 1 _ rfl mb (by simp [blkC])).1
          have m6 : W.drew.cell? ⟨mb, 3, none⟩ = some (.int .i64 (0)) := m5
          obtain ⟨x0, x1, x2, x3, x4, fx⟩ := row5 (HD.get 0 rfl)
          clear eW G5 m5 G
          go_region_held3 (fun w' => w'.cell? ⟨w.heap.size, 0, none⟩ = some (.int .i64 c0) ∧ w'.cell? ⟨w.heap.size, 1, none⟩ = some (.int .i64 c1) ∧ w'.cell? ⟨w.heap.size, 2, none⟩ = some (.int .i64 c2) ∧ w'.cell? ⟨w.heap.size, 3, none⟩ = some (.int .i64 c3) ∧ w'.cell? ⟨w.heap.size, 4, none⟩ = some (.int .i64 c4) ∧ w'.cell? ⟨mb, 3, none⟩ = some (.int .i64 (0))) (first | (refine ⟨?_, ?_, ?_, ?_, ?_, ?_⟩ <;> (with_reducible assumption))) (first | (go_at_call 35; refine (Total_c c0 c1 c2 c3 c4 _).mono ?_; rw [TT.out]; rintro e v3 ⟨rfl, b3⟩; have H3 := HD.up b3; obtain ⟨y0, y1, y2, y3, y4, fy⟩ := row5 (H3.get 0 rfl); have m7 := (b3.cell (p := ⟨mb, 3, none⟩) mbW).trans m6; have mb3 := Nat.lt_of_lt_of_le mbW b3.size) | (go_at_call 36; refine (Class_c c0 c1 c2 c3 c4 _ (by first | omega | (rw [hN1]; omega)) _).mono ?_; (first | rw [CL.out.1] | rw [hN1, CL.out.1]); rintro e v4 ⟨rfl, b4⟩; have H4 := H3.up b4; obtain ⟨z0, z1, z2, z3, z4, fz⟩ := row5 (H4.get 0 rfl); have m8 := (b4.cell (p := ⟨mb, 3, none⟩) mb3).trans m7; have mb4 := Nat.lt_of_lt_of_le mb3 b4.size) | (go_at_call 36; refine (Class_c c0 c1 c2 c3 c4 _ (by omega) _).mono ?_; rw [CL.out.2]; rintro e v5 ⟨rfl, b5⟩; have H5 := H4.up b5; obtain ⟨q0, q1, q2, q3, q4, fq⟩ := row5 (H5.get 0 rfl); have m9 := (b5.cell (p := ⟨mb, 3, none⟩) mb4).trans m8))
          all_goals (go_wp2_with fail)
          all_goals (go_ret; exact ⟨by first | rfl | (simp; done) | (simp; omega), H5.below⟩)
        · by_cases hB : c3 < 12
          · have hB2 : 0 ≤ c3 := by omega
            have hsb : sBound c3 = c3 := sBound_mid _ (by omega) (by omega)
            have hcnt : cnt xs i 3 = c3 := by rw [HI.out, HA.out]; simp [hsb]
            have m0 : wr.cell? ⟨mb, 3, none⟩ = some (.int .i64 (c3)) := by rw [blk_cell (G.get 1 rfl), ← hcnt]; rfl
            clear hcnt
            have hmo : sTotal c0 c1 c2 (c3 + 1) c4 = T + sWords 3 := by
              rw [← TT.out]
              unfold sTotal
              have : sBound (c3 + 1) = sBound c3 + 1 := by rw [hsb]; exact sBound_mid _ (by omega) (by omega)
              rw [this, sWords_3]
              omega
            have HM := Lib.hid hmo
            have hwj := sWords_bd 3
            have hne : (T + sWords 3 != T + sWords 3) = false := by simp
            have hwr : IntKind.i64.wrap (T + sWords 3) = T + sWords 3 := wrapi64_id _ (by omega) (by omega)
            have hwr2 : wrap64 (T + sWords 3) = T + sWords 3 := wrap64_id _ (by omega) (by omega)
            clear hmo hsb
            go_wp2_with fail
            have G3 := (G.blkNew #[.int .i64 c0, .int .i64 c1, .int .i64 c2, .int .i64 (c3 + 1), .int .i64 c4] 42)
            refine (Total_c c0 c1 c2 (c3 + 1) c4 _).mono ?_
            rw [HM.out]
            rintro e w3 ⟨rfl, b3⟩
            have G4 := G3.up b3
            have m3 := (b3.cell (p := ⟨mb, 3, none⟩) (by simp; omega)).trans (((Below.refl _ wr).alloc (Nat.le_refl _) _).cell (p := ⟨mb, 3, none⟩) mbl |>.trans m0)
            clear d0 d1 d2 d3 d4 fz b3 G3 m0
            go_wp2_with fail
            refine (Words_c 3 _).mono ?_
            rintro e w4 ⟨rfl, dn, rfl⟩
            have G5 := G4.drewN dn
            have m5 : (w3.drewN dn).cell? ⟨mb, 3, none⟩ = some (.int .i64 (c3)) := m3
            clear G4 m3
            go_wp2_with fail
            clear hwj hne HM
            obtain ⟨W, HW, eW⟩ := G5.name
            rw [← eW.out] at m5 ⊢
            have HD := HW.drew
            have mbW : mb < W.drew.heap.size := (HW.lt 1 _ rfl mb (by simp [blkC])).1
            have m6 : W.drew.cell? ⟨mb, 3, none⟩ = some (.int .i64 (c3)) := m5
            obtain ⟨x0, x1, x2, x3, x4, fx⟩ := row5 (HD.get 0 rfl)
            clear eW G5 m5 G
            go_region_held3 (fun w' => w'.cell? ⟨w.heap.size, 0, none⟩ = some (.int .i64 c0) ∧ w'.cell? ⟨w.heap.size, 1, none⟩ = some (.int .i64 c1) ∧ w'.cell? ⟨w.heap.size, 2, none⟩ = some (.int .i64 c2) ∧ w'.cell? ⟨w.heap.size, 3, none⟩ = some (.int .i64 c3) ∧ w'.cell? ⟨w.heap.size, 4, none⟩ = some (.int .i64 c4) ∧ w'.cell? ⟨mb, 3, none⟩ = some (.int .i64 (c3))) (first | (refine ⟨?_, ?_, ?_, ?_, ?_, ?_⟩ <;> (with_reducible assumption))) (first | (go_at_call 35; refine (Total_c c0 c1 c2 c3 c4 _).mono ?_; rw [TT.out]; rintro e v3 ⟨rfl, b3⟩; have H3 := HD.up b3; obtain ⟨y0, y1, y2, y3, y4, fy⟩ := row5 (H3.get 0 rfl); have m7 := (b3.cell (p := ⟨mb, 3, none⟩) mbW).trans m6; have mb3 := Nat.lt_of_lt_of_le mbW b3.size) | (go_at_call 36; refine (Class_c c0 c1 c2 c3 c4 _ (by first | omega | (rw [hN1]; omega)) _).mono ?_; (first | rw [CL.out.1] | rw [hN1, CL.out.1]); rintro e v4 ⟨rfl, b4⟩; have H4 := H3.up b4; obtain ⟨z0, z1, z2, z3, z4, fz⟩ := row5 (H4.get 0 rfl); have m8 := (b4.cell (p := ⟨mb, 3, none⟩) mb3).trans m7; have mb4 := Nat.lt_of_lt_of_le mb3 b4.size) | (go_at_call 36; refine (Class_c c0 c1 c2 c3 c4 _ (by omega) _).mono ?_; rw [CL.out.2]; rintro e v5 ⟨rfl, b5⟩; have H5 := H4.up b5; obtain ⟨q0, q1, q2, q3, q4, fq⟩ := row5 (H5.get 0 rfl); have m9 := (b5.cell (p := ⟨mb, 3, none⟩) mb4).trans m8))
            all_goals (go_wp2_with fail)
            all_goals (go_ret; exact ⟨by first | rfl | (simp; done) | (simp; omega), H5.below⟩)
          · have hB2 : 0 ≤ c3 := by omega
            have hsb : sBound c3 = 12 := by unfold sBound; rw [if_neg (by omega), if_neg (by omega)]
            have hcnt : cnt xs i 3 = 12 := by rw [HI.out, HA.out]; simp [hsb]
            have m0 : wr.cell? ⟨mb, 3, none⟩ = some (.int .i64 (12)) := by rw [blk_cell (G.get 1 rfl), ← hcnt]; rfl
            clear hcnt
            clear hsb
            go_wp2_with fail
            have G5 := G.blkNew #[.int .i64 c0, .int .i64 c1, .int .i64 c2, .int .i64 c3, .int .i64 c4] 42
            have m5 := ((Below.refl _ wr).alloc (Nat.le_refl _) (.cells #[.int .i64 c0, .int .i64 c1, .int .i64 c2, .int .i64 c3, .int .i64 c4] 42)).cell (p := ⟨mb, 3, none⟩) mbl |>.trans m0
            clear d0 d1 d2 d3 d4 fz m0
            obtain ⟨W, HW, eW⟩ := G5.name
            rw [← eW.out] at m5 ⊢
            have HD := HW.drew
            have mbW : mb < W.drew.heap.size := (HW.lt 1 _ rfl mb (by simp [blkC])).1
            have m6 : W.drew.cell? ⟨mb, 3, none⟩ = some (.int .i64 (12)) := m5
            obtain ⟨x0, x1, x2, x3, x4, fx⟩ := row5 (HD.get 0 rfl)
            clear eW G5 m5 G
            go_region_held3 (fun w' => w'.cell? ⟨w.heap.size, 0, none⟩ = some (.int .i64 c0) ∧ w'.cell? ⟨w.heap.size, 1, none⟩ = some (.int .i64 c1) ∧ w'.cell? ⟨w.heap.size, 2, none⟩ = some (.int .i64 c2) ∧ w'.cell? ⟨w.heap.size, 3, none⟩ = some (.int .i64 c3) ∧ w'.cell? ⟨w.heap.size, 4, none⟩ = some (.int .i64 c4) ∧ w'.cell? ⟨mb, 3, none⟩ = some (.int .i64 (12))) (first | (refine ⟨?_, ?_, ?_, ?_, ?_, ?_⟩ <;> (with_reducible assumption))) (first | (go_at_call 35; refine (Total_c c0 c1 c2 c3 c4 _).mono ?_; rw [TT.out]; rintro e v3 ⟨rfl, b3⟩; have H3 := HD.up b3; obtain ⟨y0, y1, y2, y3, y4, fy⟩ := row5 (H3.get 0 rfl); have m7 := (b3.cell (p := ⟨mb, 3, none⟩) mbW).trans m6; have mb3 := Nat.lt_of_lt_of_le mbW b3.size) | (go_at_call 36; refine (Class_c c0 c1 c2 c3 c4 _ (by first | omega | (rw [hN1]; omega)) _).mono ?_; (first | rw [CL.out.1] | rw [hN1, CL.out.1]); rintro e v4 ⟨rfl, b4⟩; have H4 := H3.up b4; obtain ⟨z0, z1, z2, z3, z4, fz⟩ := row5 (H4.get 0 rfl); have m8 := (b4.cell (p := ⟨mb, 3, none⟩) mb3).trans m7; have mb4 := Nat.lt_of_lt_of_le mb3 b4.size) | (go_at_call 36; refine (Class_c c0 c1 c2 c3 c4 _ (by omega) _).mono ?_; rw [CL.out.2]; rintro e v5 ⟨rfl, b5⟩; have H5 := H4.up b5; obtain ⟨q0, q1, q2, q3, q4, fq⟩ := row5 (H5.get 0 rfl); have m9 := (b5.cell (p := ⟨mb, 3, none⟩) mb4).trans m8))
            all_goals (go_wp2_with fail)
            all_goals (go_ret; exact ⟨by first | rfl | (simp; done) | (simp; omega), H5.below⟩)
      · by_cases hA : c4 < 0
        · have hB : c4 < 12 := by omega
          have hsb : sBound c4 = 0 := sBound_neg _ hA
          have hcnt : cnt xs i 4 = 0 := by rw [HI.out, HA.out]; simp [hsb]
          have m0 : wr.cell? ⟨mb, 4, none⟩ = some (.int .i64 (0)) := by rw [blk_cell (G.get 1 rfl), ← hcnt]; rfl
          clear hcnt
          have hmo : sTotal c0 c1 c2 c3 1 = T + sWords 4 := by
            rw [← TT.out]
            unfold sTotal
            have : sBound 1 = sBound c4 + 1 := by rw [hsb]; rfl
            rw [this, sWords_4]
            omega
          have HM := Lib.hid hmo
          have hwj := sWords_bd 4
          have hne : (T + sWords 4 != T + sWords 4) = false := by simp
          have hwr : IntKind.i64.wrap (T + sWords 4) = T + sWords 4 := wrapi64_id _ (by omega) (by omega)
          have hwr2 : wrap64 (T + sWords 4) = T + sWords 4 := wrap64_id _ (by omega) (by omega)
          clear hmo hsb
          go_wp2_with fail
          have G3 := (G.blkNew #[.int .i64 c0, .int .i64 c1, .int .i64 c2, .int .i64 c3, .int .i64 1] 42)
          refine (Total_c c0 c1 c2 c3 1 _).mono ?_
          rw [HM.out]
          rintro e w3 ⟨rfl, b3⟩
          have G4 := G3.up b3
          have m3 := (b3.cell (p := ⟨mb, 4, none⟩) (by simp; omega)).trans (((Below.refl _ wr).alloc (Nat.le_refl _) _).cell (p := ⟨mb, 4, none⟩) mbl |>.trans m0)
          clear d0 d1 d2 d3 d4 fz b3 G3 m0
          go_wp2_with fail
          refine (Words_c 4 _).mono ?_
          rintro e w4 ⟨rfl, dn, rfl⟩
          have G5 := G4.drewN dn
          have m5 : (w3.drewN dn).cell? ⟨mb, 4, none⟩ = some (.int .i64 (0)) := m3
          clear G4 m3
          go_wp2_with fail
          clear hwj hne HM
          obtain ⟨W, HW, eW⟩ := G5.name
          rw [← eW.out] at m5 ⊢
          have HD := HW.drew
          have mbW : mb < W.drew.heap.size := (HW.lt 1 _ rfl mb (by simp [blkC])).1
          have m6 : W.drew.cell? ⟨mb, 4, none⟩ = some (.int .i64 (0)) := m5
          obtain ⟨x0, x1, x2, x3, x4, fx⟩ := row5 (HD.get 0 rfl)
          clear eW G5 m5 G
          go_region_held3 (fun w' => w'.cell? ⟨w.heap.size, 0, none⟩ = some (.int .i64 c0) ∧ w'.cell? ⟨w.heap.size, 1, none⟩ = some (.int .i64 c1) ∧ w'.cell? ⟨w.heap.size, 2, none⟩ = some (.int .i64 c2) ∧ w'.cell? ⟨w.heap.size, 3, none⟩ = some (.int .i64 c3) ∧ w'.cell? ⟨w.heap.size, 4, none⟩ = some (.int .i64 c4) ∧ w'.cell? ⟨mb, 4, none⟩ = some (.int .i64 (0))) (first | (refine ⟨?_, ?_, ?_, ?_, ?_, ?_⟩ <;> (with_reducible assumption))) (first | (go_at_call 35; refine (Total_c c0 c1 c2 c3 c4 _).mono ?_; rw [TT.out]; rintro e v3 ⟨rfl, b3⟩; have H3 := HD.up b3; obtain ⟨y0, y1, y2, y3, y4, fy⟩ := row5 (H3.get 0 rfl); have m7 := (b3.cell (p := ⟨mb, 4, none⟩) mbW).trans m6; have mb3 := Nat.lt_of_lt_of_le mbW b3.size) | (go_at_call 36; refine (Class_c c0 c1 c2 c3 c4 _ (by first | omega | (rw [hN1]; omega)) _).mono ?_; (first | rw [CL.out.1] | rw [hN1, CL.out.1]); rintro e v4 ⟨rfl, b4⟩; have H4 := H3.up b4; obtain ⟨z0, z1, z2, z3, z4, fz⟩ := row5 (H4.get 0 rfl); have m8 := (b4.cell (p := ⟨mb, 4, none⟩) mb3).trans m7; have mb4 := Nat.lt_of_lt_of_le mb3 b4.size) | (go_at_call 36; refine (Class_c c0 c1 c2 c3 c4 _ (by omega) _).mono ?_; rw [CL.out.2]; rintro e v5 ⟨rfl, b5⟩; have H5 := H4.up b5; obtain ⟨q0, q1, q2, q3, q4, fq⟩ := row5 (H5.get 0 rfl); have m9 := (b5.cell (p := ⟨mb, 4, none⟩) mb4).trans m8))
          all_goals (go_wp2_with fail)
          all_goals (go_ret; exact ⟨by first | rfl | (simp; done) | (simp; omega), H5.below⟩)
        · by_cases hB : c4 < 12
          · have hB2 : 0 ≤ c4 := by omega
            have hsb : sBound c4 = c4 := sBound_mid _ (by omega) (by omega)
            have hcnt : cnt xs i 4 = c4 := by rw [HI.out, HA.out]; simp [hsb]
            have m0 : wr.cell? ⟨mb, 4, none⟩ = some (.int .i64 (c4)) := by rw [blk_cell (G.get 1 rfl), ← hcnt]; rfl
            clear hcnt
            have hmo : sTotal c0 c1 c2 c3 (c4 + 1) = T + sWords 4 := by
              rw [← TT.out]
              unfold sTotal
              have : sBound (c4 + 1) = sBound c4 + 1 := by rw [hsb]; exact sBound_mid _ (by omega) (by omega)
              rw [this, sWords_4]
              omega
            have HM := Lib.hid hmo
            have hwj := sWords_bd 4
            have hne : (T + sWords 4 != T + sWords 4) = false := by simp
            have hwr : IntKind.i64.wrap (T + sWords 4) = T + sWords 4 := wrapi64_id _ (by omega) (by omega)
            have hwr2 : wrap64 (T + sWords 4) = T + sWords 4 := wrap64_id _ (by omega) (by omega)
            clear hmo hsb
            go_wp2_with fail
            have G3 := (G.blkNew #[.int .i64 c0, .int .i64 c1, .int .i64 c2, .int .i64 c3, .int .i64 (c4 + 1)] 42)
            refine (Total_c c0 c1 c2 c3 (c4 + 1) _).mono ?_
            rw [HM.out]
            rintro e w3 ⟨rfl, b3⟩
            have G4 := G3.up b3
            have m3 := (b3.cell (p := ⟨mb, 4, none⟩) (by simp; omega)).trans (((Below.refl _ wr).alloc (Nat.le_refl _) _).cell (p := ⟨mb, 4, none⟩) mbl |>.trans m0)
            clear d0 d1 d2 d3 d4 fz b3 G3 m0
            go_wp2_with fail
            refine (Words_c 4 _).mono ?_
            rintro e w4 ⟨rfl, dn, rfl⟩
            have G5 := G4.drewN dn
            have m5 : (w3.drewN dn).cell? ⟨mb, 4, none⟩ = some (.int .i64 (c4)) := m3
            clear G4 m3
            go_wp2_with fail
            clear hwj hne HM
            obtain ⟨W, HW, eW⟩ := G5.name
            rw [← eW.out] at m5 ⊢
            have HD := HW.drew
            have mbW : mb < W.drew.heap.size := (HW.lt 1 _ rfl mb (by simp [blkC])).1
            have m6 : W.drew.cell? ⟨mb, 4, none⟩ = some (.int .i64 (c4)) := m5
            obtain ⟨x0, x1, x2, x3, x4, fx⟩ := row5 (HD.get 0 rfl)
            clear eW G5 m5 G
            go_region_held3 (fun w' => w'.cell? ⟨w.heap.size, 0, none⟩ = some (.int .i64 c0) ∧ w'.cell? ⟨w.heap.size, 1, none⟩ = some (.int .i64 c1) ∧ w'.cell? ⟨w.heap.size, 2, none⟩ = some (.int .i64 c2) ∧ w'.cell? ⟨w.heap.size, 3, none⟩ = some (.int .i64 c3) ∧ w'.cell? ⟨w.heap.size, 4, none⟩ = some (.int .i64 c4) ∧ w'.cell? ⟨mb, 4, none⟩ = some (.int .i64 (c4))) (first | (refine ⟨?_, ?_, ?_, ?_, ?_, ?_⟩ <;> (with_reducible assumption))) (first | (go_at_call 35; refine (Total_c c0 c1 c2 c3 c4 _).mono ?_; rw [TT.out]; rintro e v3 ⟨rfl, b3⟩; have H3 := HD.up b3; obtain ⟨y0, y1, y2, y3, y4, fy⟩ := row5 (H3.get 0 rfl); have m7 := (b3.cell (p := ⟨mb, 4, none⟩) mbW).trans m6; have mb3 := Nat.lt_of_lt_of_le mbW b3.size) | (go_at_call 36; refine (Class_c c0 c1 c2 c3 c4 _ (by first | omega | (rw [hN1]; omega)) _).mono ?_; (first | rw [CL.out.1] | rw [hN1, CL.out.1]); rintro e v4 ⟨rfl, b4⟩; have H4 := H3.up b4; obtain ⟨z0, z1, z2, z3, z4, fz⟩ := row5 (H4.get 0 rfl); have m8 := (b4.cell (p := ⟨mb, 4, none⟩) mb3).trans m7; have mb4 := Nat.lt_of_lt_of_le mb3 b4.size) | (go_at_call 36; refine (Class_c c0 c1 c2 c3 c4 _ (by omega) _).mono ?_; rw [CL.out.2]; rintro e v5 ⟨rfl, b5⟩; have H5 := H4.up b5; obtain ⟨q0, q1, q2, q3, q4, fq⟩ := row5 (H5.get 0 rfl); have m9 := (b5.cell (p := ⟨mb, 4, none⟩) mb4).trans m8))
            all_goals (go_wp2_with fail)
            all_goals (go_ret; exact ⟨by first | rfl | (simp; done) | (simp; omega), H5.below⟩)
          · have hB2 : 0 ≤ c4 := by omega
            have hsb : sBound c4 = 12 := by unfold sBound; rw [if_neg (by omega), if_neg (by omega)]
            have hcnt : cnt xs i 4 = 12 := by rw [HI.out, HA.out]; simp [hsb]
            have m0 : wr.cell? ⟨mb, 4, none⟩ = some (.int .i64 (12)) := by rw [blk_cell (G.get 1 rfl), ← hcnt]; rfl
            clear hcnt
            clear hsb
            go_wp2_with fail
            have G5 := G.blkNew #[.int .i64 c0, .int .i64 c1, .int .i64 c2, .int .i64 c3, .int .i64 c4] 42
            have m5 := ((Below.refl _ wr).alloc (Nat.le_refl _) (.cells #[.int .i64 c0, .int .i64 c1, .int .i64 c2, .int .i64 c3, .int .i64 c4] 42)).cell (p := ⟨mb, 4, none⟩) mbl |>.trans m0
            clear d0 d1 d2 d3 d4 fz m0
            obtain ⟨W, HW, eW⟩ := G5.name
            rw [← eW.out] at m5 ⊢
            have HD := HW.drew
            have mbW : mb < W.drew.heap.size := (HW.lt 1 _ rfl mb (by simp [blkC])).1
            have m6 : W.drew.cell? ⟨mb, 4, none⟩ = some (.int .i64 (12)) := m5
            obtain ⟨x0, x1, x2, x3, x4, fx⟩ := row5 (HD.get 0 rfl)
            clear eW G5 m5 G
            go_region_held3 (fun w' => w'.cell? ⟨w.heap.size, 0, none⟩ = some (.int .i64 c0) ∧ w'.cell? ⟨w.heap.size, 1, none⟩ = some (.int .i64 c1) ∧ w'.cell? ⟨w.heap.size, 2, none⟩ = some (.int .i64 c2) ∧ w'.cell? ⟨w.heap.size, 3, none⟩ = some (.int .i64 c3) ∧ w'.cell? ⟨w.heap.size, 4, none⟩ = some (.int .i64 c4) ∧ w'.cell? ⟨mb, 4, none⟩ = some (.int .i64 (12))) (first | (refine ⟨?_, ?_, ?_, ?_, ?_, ?_⟩ <;> (with_reducible assumption))) (first | (go_at_call 35; refine (Total_c c0 c1 c2 c3 c4 _).mono ?_; rw [TT.out]; rintro e v3 ⟨rfl, b3⟩; have H3 := HD.up b3; obtain ⟨y0, y1, y2, y3, y4, fy⟩ := row5 (H3.get 0 rfl); have m7 := (b3.cell (p := ⟨mb, 4, none⟩) mbW).trans m6; have mb3 := Nat.lt_of_lt_of_le mbW b3.size) | (go_at_call 36; refine (Class_c c0 c1 c2 c3 c4 _ (by first | omega | (rw [hN1]; omega)) _).mono ?_; (first | rw [CL.out.1] | rw [hN1, CL.out.1]); rintro e v4 ⟨rfl, b4⟩; have H4 := H3.up b4; obtain ⟨z0, z1, z2, z3, z4, fz⟩ := row5 (H4.get 0 rfl); have m8 := (b4.cell (p := ⟨mb, 4, none⟩) mb3).trans m7; have mb4 := Nat.lt_of_lt_of_le mb3 b4.size) | (go_at_call 36; refine (Class_c c0 c1 c2 c3 c4 _ (by omega) _).mono ?_; rw [CL.out.2]; rintro e v5 ⟨rfl, b5⟩; have H5 := H4.up b5; obtain ⟨q0, q1, q2, q3, q4, fq⟩ := row5 (H5.get 0 rfl); have m9 := (b5.cell (p := ⟨mb, 4, none⟩) mb4).trans m8))
            all_goals (go_wp2_with fail)
            all_goals (go_ret; exact ⟨by first | rfl | (simp; done) | (simp; omega), H5.below⟩)

end Go.Proofs.Ytiokngcpbakaaaa
