/- at; LayoutPlaces, LayoutApart. -/
import Derived.Test.YtjfemakkjfpdhaaLaw5a
import Derived.Test.YtjfemakkjfpdhaaThings5
import Derived.Deep.DeepCutAuto
set_option linter.unusedVariables false
set_option linter.unusedSimpArgs false
namespace Go.Proofs.Ytjfemakkjfpdhaa
open Go.ChangeShapes Go.WideShapes Go.ChangeAt Go.RowKit

set_option maxRecDepth 100000 in
set_option maxHeartbeats 8000000 in
theorem At_h {w0 w : World} {cs : List (Chunk w0.heap.size)} (H : Has w0 w cs) (q : Nat) {mb : Nat} {av rv : Value} {c : Cfg} (hq : cs[q]? = some (mapC _ mb av rv c)) (h : CfgOk c) (t : Th) (hk : 0 ≤ t.k ∧ t.k ≤ 18) (hb : t.b ≤ 9223372036854775807) :
    Calls Try.prog 28 #[.pointer (some ⟨mb, 0, none⟩), thV t] w fun e w' => e = .returned (.int .i64 (c.atOf t)) ∧ Has w0 w' cs := by
  obtain ⟨tk, ta, tb⟩ := t
  dsimp only at hk hb
  have HQ := Lib.hid hq
  clear hq
  have hks : tk = 0 ∨ tk = 1 ∨ tk = 2 ∨ tk = 3 ∨ tk = 4 ∨ tk = 5 ∨ tk = 6 ∨ tk = 7 ∨ tk = 8 ∨ tk = 9 ∨ tk = 10 ∨ tk = 11 ∨ tk = 12 ∨ tk = 13 ∨ tk = 14 ∨ tk = 15 ∨ tk = 16 ∨ tk = 17 ∨ tk = 18 := by omega
  clear hk
  unfold thV
  rcases hks with rfl | rfl | rfl | rfl | rfl | rfl | rfl | rfl | rfl | rfl | rfl | rfl | rfl | rfl | rfl | rfl | rfl | rfl | rfl
  · go_enter Try.func28, Try.ntmps28
    have G0 := H.blkNew #[.int .i64 0, .int .i64 ta, .int .i64 tb] 48
    go_wp2_with fail
    refine (Phase_q (G0.mAt q (get_app HQ.out _) h)).mono ?_
    rintro e w1 ⟨rfl, d1, rfl⟩
    go_wp2_with fail
    go_ret
    exact ⟨rfl, (G0.drewN _).front⟩
  · go_enter Try.func28, Try.ntmps28
    have G0 := H.blkNew #[.int .i64 1, .int .i64 ta, .int .i64 tb] 48
    go_wp2_with fail
    refine (Work_q (G0.mAt q (get_app HQ.out _) h)).mono ?_
    rintro e w1 ⟨rfl, d1, rfl⟩
    go_wp2_with fail
    go_ret
    exact ⟨rfl, (G0.drewN _).front⟩
  · go_enter Try.func28, Try.ntmps28
    have G0 := H.blkNew #[.int .i64 2, .int .i64 ta, .int .i64 tb] 48
    go_wp2_with fail
    refine (Sweep_q (G0.mAt q (get_app HQ.out _) h)).mono ?_
    rintro e w1 ⟨rfl, d1, rfl⟩
    go_wp2_with fail
    go_ret
    exact ⟨rfl, (G0.drewN _).front⟩
  · go_enter Try.func28, Try.ntmps28
    have G0 := H.blkNew #[.int .i64 3, .int .i64 ta, .int .i64 tb] 48
    go_wp2_with fail
    refine (Done_q (G0.mAt q (get_app HQ.out _) h)).mono ?_
    rintro e w1 ⟨rfl, d1, rfl⟩
    go_wp2_with fail
    go_ret
    exact ⟨rfl, (G0.drewN _).front⟩
  · go_enter Try.func28, Try.ntmps28
    have G0 := H.blkNew #[.int .i64 4, .int .i64 ta, .int .i64 tb] 48
    go_wp2_with fail
    refine (Pool_q (G0.mAt q (get_app HQ.out _) h)).mono ?_
    rintro e w1 ⟨rfl, d1, rfl⟩
    go_wp2_with fail
    go_ret
    exact ⟨rfl, (G0.drewN _).front⟩
  · go_enter Try.func28, Try.ntmps28
    have G0 := H.blkNew #[.int .i64 5, .int .i64 ta, .int .i64 tb] 48
    go_wp2_with fail
    refine (Spare_q (G0.mAt q (get_app HQ.out _) h)).mono ?_
    rintro e w1 ⟨rfl, d1, rfl⟩
    go_wp2_with fail
    go_ret
    exact ⟨rfl, (G0.drewN _).front⟩
  · go_enter Try.func28, Try.ntmps28
    have G0 := H.blkNew #[.int .i64 6, .int .i64 ta, .int .i64 tb] 48
    go_wp2_with fail
    refine (Ack_q (G0.mAt q (get_app HQ.out _) h) ta).mono ?_
    rintro e w1 ⟨rfl, d1, rfl⟩
    go_wp2_with fail
    go_ret
    exact ⟨rfl, (G0.drewN _).front⟩
  · go_enter Try.func28, Try.ntmps28
    have G0 := H.blkNew #[.int .i64 7, .int .i64 ta, .int .i64 tb] 48
    go_wp2_with fail
    refine (Head_q (G0.mAt q (get_app HQ.out _) h) ta).mono ?_
    rintro e w1 ⟨rfl, d1, rfl⟩
    go_wp2_with fail
    go_ret
    exact ⟨rfl, (G0.drewN _).front⟩
  · go_enter Try.func28, Try.ntmps28
    have G0 := H.blkNew #[.int .i64 8, .int .i64 ta, .int .i64 tb] 48
    go_wp2_with fail
    refine (Top_q (G0.mAt q (get_app HQ.out _) h) ta).mono ?_
    rintro e w1 ⟨rfl, d1, rfl⟩
    go_wp2_with fail
    go_ret
    exact ⟨rfl, (G0.drewN _).front⟩
  · go_enter Try.func28, Try.ntmps28
    have G0 := H.blkNew #[.int .i64 9, .int .i64 ta, .int .i64 tb] 48
    go_wp2_with fail
    refine (Bottom_q (G0.mAt q (get_app HQ.out _) h) ta).mono ?_
    rintro e w1 ⟨rfl, d1, rfl⟩
    go_wp2_with fail
    go_ret
    exact ⟨rfl, (G0.drewN _).front⟩
  · go_enter Try.func28, Try.ntmps28
    have G0 := H.blkNew #[.int .i64 10, .int .i64 ta, .int .i64 tb] 48
    go_wp2_with fail
    refine (Entry_q (G0.mAt q (get_app HQ.out _) h) ta tb).mono ?_
    rintro e w1 ⟨rfl, d1, rfl⟩
    go_wp2_with fail
    go_ret
    exact ⟨rfl, (G0.drewN _).front⟩
  · go_enter Try.func28, Try.ntmps28
    have G0 := H.blkNew #[.int .i64 11, .int .i64 ta, .int .i64 tb] 48
    go_wp2_with fail
    refine (Many_q (G0.mAt q (get_app HQ.out _) h) ta).mono ?_
    rintro e w1 ⟨rfl, d1, rfl⟩
    go_wp2_with fail
    go_ret
    exact ⟨rfl, (G0.drewN _).front⟩
  · go_enter Try.func28, Try.ntmps28
    have G0 := H.blkNew #[.int .i64 12, .int .i64 ta, .int .i64 tb] 48
    go_wp2_with fail
    refine (Link_q (G0.mAt q (get_app HQ.out _) h) ta).mono ?_
    rintro e w1 ⟨rfl, d1, rfl⟩
    go_wp2_with fail
    go_ret
    exact ⟨rfl, (G0.drewN _).front⟩
  · go_enter Try.func28, Try.ntmps28
    have G0 := H.blkNew #[.int .i64 13, .int .i64 ta, .int .i64 tb] 48
    go_wp2_with fail
    refine (Task_q (G0.mAt q (get_app HQ.out _) h) ta tb).mono ?_
    rintro e w1 ⟨rfl, d1, rfl⟩
    go_wp2_with fail
    go_ret
    exact ⟨rfl, (G0.drewN _).front⟩
  · go_enter Try.func28, Try.ntmps28
    have G0 := H.blkNew #[.int .i64 14, .int .i64 ta, .int .i64 tb] 48
    go_wp2_with fail
    refine (Header_q (G0.mAt q (get_app HQ.out _) h) ta).mono ?_
    rintro e w1 ⟨rfl, d1, rfl⟩
    go_wp2_with fail
    go_ret
    exact ⟨rfl, (G0.drewN _).front⟩
  · go_enter Try.func28, Try.ntmps28
    have G0 := H.blkNew #[.int .i64 15, .int .i64 ta, .int .i64 tb] 48
    go_wp2_with fail
    refine (State_q (G0.mAt q (get_app HQ.out _) h) ta).mono ?_
    rintro e w1 ⟨rfl, d1, rfl⟩
    go_wp2_with fail
    go_ret
    exact ⟨rfl, (G0.drewN _).front⟩
  · go_enter Try.func28, Try.ntmps28
    have G0 := H.blkNew #[.int .i64 16, .int .i64 ta, .int .i64 tb] 48
    go_wp2_with fail
    refine (Mark_q (G0.mAt q (get_app HQ.out _) h) ta).mono ?_
    rintro e w1 ⟨rfl, d1, rfl⟩
    go_wp2_with fail
    go_ret
    exact ⟨rfl, (G0.drewN _).front⟩
  · go_enter Try.func28, Try.ntmps28
    have G0 := H.blkNew #[.int .i64 17, .int .i64 ta, .int .i64 tb] 48
    go_wp2_with fail
    refine (Next_q (G0.mAt q (get_app HQ.out _) h) ta).mono ?_
    rintro e w1 ⟨rfl, d1, rfl⟩
    go_wp2_with fail
    go_ret
    exact ⟨rfl, (G0.drewN _).front⟩
  · go_enter Try.func28, Try.ntmps28
    have G0 := H.blkNew #[.int .i64 18, .int .i64 ta, .int .i64 tb] 48
    go_wp2_with fail
    refine (Slot_q (G0.mAt q (get_app HQ.out _) h) ta tb).mono ?_
    rintro e w1 ⟨rfl, d1, rfl⟩
    go_wp2_with fail
    go_ret
    exact ⟨rfl, (G0.drewN _).front⟩

set_option maxRecDepth 100000 in
set_option maxHeartbeats 8000000 in
theorem places_ok (c : Cfg) (h : CfgOk c) (v a b : Int) (v0 : 0 ≤ v) (v1 : v < 256) (hb : b ≤ 9223372036854775807) (w : World) :
    Calls Try.prog 6 #[cfgV c, .int .u8 v, .int .i64 a, .int .i64 b] w fun e w' => e = .returned (.bool true) ∧ Below w.heap.size w w' := by
  have n0 := Int.emod_nonneg v (by omega : (19 : Int) ≠ 0)
  have n1 := Int.emod_lt_of_pos v (by omega : (0 : Int) < 19)
  have e2 : v.tmod 19 = v % 19 := Int.tmod_eq_emod_of_nonneg v0
  have TL := Lib.hid (things_seg h).2
  have hok : cfgOk c = true := (cfgOk_iff c).2 h
  have HOK := Lib.hid hok
  clear hok
  unfold cfgV cfgCells
  go_enter Try.func6, Try.ntmps6
  have G0 := (Has.nil w).blkNew (cfgCells c) 24
  go_wp2_with fail
  refine (awake5 _).mono ?_
  rintro e w1 ⟨rfl, q1⟩
  have G1 := G0.up q1
  obtain ⟨b0, b1, b2, b3, b4, b5, b6, b7, b8, b9, b10, b11, fb⟩ := row12 (G1.get 0 rfl)
  clear G0 q1
  go_wp2_with fail
  refine (model_c c _).mono ?_
  rintro e w2 ⟨rfl, q2⟩
  have G2 := G1.up q2
  clear G1 q2 b0 b1 b2 b3 b4 b5 b6 b7 b8 b9 b10 b11 fb
  go_wp2_with fail
  refine (RCheck_c c _).mono ?_
  rw [HOK.out]
  rintro e w3 ⟨rfl, q3⟩
  have G3 := G2.up q3
  have he : errB true = 0 := rfl
  rw [he]
  obtain ⟨b0, b1, b2, b3, b4, b5, b6, b7, b8, b9, b10, b11, fb⟩ := row12 (G3.get 0 rfl)
  clear G2 q3 he
  go_wp2_with fail
  refine (New_m G3 c h).mono ?_
  rintro e w4 ⟨mb, av, rv, rfl, G4⟩
  clear G3 b0 b1 b2 b3 b4 b5 b6 b7 b8 b9 b10 b11 fb
  obtain ⟨b0, b1, b2, b3, b4, b5, b6, b7, b8, b9, b10, b11, fb⟩ := row12 (G4.get 0 rfl)
  go_wp2_with fail
  refine (model_c c _).mono ?_
  rintro e w5 ⟨rfl, q5⟩
  have G5 := G4.up q5
  clear G4 q5 b0 b1 b2 b3 b4 b5 b6 b7 b8 b9 b10 b11 fb
  go_wp2_with fail
  refine (RThings_h G5 c h).mono ?_
  rintro e w6 ⟨lv, rfl, G6⟩
  obtain ⟨la, lc, rfl⟩ := own_is (G6.get 2 rfl)
  clear G5
  have g1 : (c.all == (c.things.length : Int)) = true := by have := TL.out; simpa using this.symm
  obtain ⟨kk, hkk⟩ : ∃ kk, kk = v % 19 := ⟨_, rfl⟩
  rw [← hkk] at n0 n1 e2
  clear hkk
  by_cases k5 : kk ≤ 5
  · have f0 : ¬ 5 < kk := by omega
    have f1 : (kk == 10) = false := by simp; omega
    have f2 : (kk == 13) = false := by simp; omega
    have f3 : (kk == 18) = false := by simp; omega
    go_wp2_with fail
    have GT := G6.blkNew #[.int .i64 kk, .int .i64 0, .int .i64 0] 48
    have hnorm : Norm ⟨kk, 0, 0⟩ := ⟨by dsimp only; omega, fun q => by (try dsimp only at q ⊢) <;> omega, fun q => by (try dsimp only at q ⊢) <;> omega⟩
    have NN := Lib.hid hnorm
    clear hnorm
    obtain ⟨AT, hAT⟩ : ∃ AT, AT = c.atOf ⟨kk, 0, 0⟩ := ⟨_, rfl⟩
    have HAT := Lib.hid hAT
    clear hAT
    have g2 : (AT == AT) = true := by simp
    obtain ⟨WT, GW, eW⟩ := GT.name
    rw [← eW.out]
    clear GT
    obtain ⟨t0, t1, t2, ft⟩ := row3 (GW.get 3 rfl)
    go_region_held3 (fun w' => w'.cell? ⟨w6.heap.size, 0, none⟩ = some (.int .i64 kk) ∧ w'.cell? ⟨w6.heap.size, 1, none⟩ = some (.int .i64 0) ∧ w'.cell? ⟨w6.heap.size, 2, none⟩ = some (.int .i64 0)) ((refine ⟨?_, ?_, ?_⟩ <;> (first | (with_reducible assumption) | (simp only [cell_drewN1, cell_drew1]; with_reducible assumption)))) (first | (go_at_call 27; refine (Len_q ((GW.drewN _).mAt 1 rfl h)).mono ?_; rintro e x1 ⟨rfl, d1, rfl⟩) | (go_at_call 28; refine (At_h (GW.drewN _) 1 rfl h ⟨kk, 0, 0⟩ NN.out.k (by dsimp only; omega)).mono ?_; rw [← HAT.out]; rintro e x2 ⟨rfl, GX⟩; obtain ⟨y0, y1, y2, fy⟩ := row3 (GX.get 3 rfl)) | (go_at_call 29; refine (RPlace_h GX 2 rfl h ⟨kk, 0, 0⟩ NN.out).mono ?_; rw [← HAT.out]; rintro e x3 ⟨rfl, GY⟩; obtain ⟨z0, z1, z2, fz⟩ := row3 (GY.get 3 rfl)))
    go_wp2_with fail
    go_ret
    exact ⟨rfl, GY.below⟩
  by_cases k10 : kk = 10
  · subst k10
    go_wp2_with fail
    have GT := G6.blkNew #[.int .i64 10, .int .i64 a, .int .i64 b] 48
    have hnorm : Norm ⟨10, a, b⟩ := ⟨by dsimp only; omega, fun q => by (try dsimp only at q ⊢) <;> omega, fun q => by (try dsimp only at q ⊢) <;> omega⟩
    have NN := Lib.hid hnorm
    clear hnorm
    obtain ⟨AT, hAT⟩ : ∃ AT, AT = c.atOf ⟨10, a, b⟩ := ⟨_, rfl⟩
    have HAT := Lib.hid hAT
    clear hAT
    have g2 : (AT == AT) = true := by simp
    obtain ⟨WT, GW, eW⟩ := GT.name
    rw [← eW.out]
    clear GT
    obtain ⟨t0, t1, t2, ft⟩ := row3 (GW.get 3 rfl)
    go_region_held3 (fun w' => w'.cell? ⟨w6.heap.size, 0, none⟩ = some (.int .i64 10) ∧ w'.cell? ⟨w6.heap.size, 1, none⟩ = some (.int .i64 a) ∧ w'.cell? ⟨w6.heap.size, 2, none⟩ = some (.int .i64 b)) ((refine ⟨?_, ?_, ?_⟩ <;> (first | (with_reducible assumption) | (simp only [cell_drewN1, cell_drew1]; with_reducible assumption)))) (first | (go_at_call 27; refine (Len_q ((GW.drewN _).mAt 1 rfl h)).mono ?_; rintro e x1 ⟨rfl, d1, rfl⟩) | (go_at_call 28; refine (At_h (GW.drewN _) 1 rfl h ⟨10, a, b⟩ NN.out.k (by dsimp only; omega)).mono ?_; rw [← HAT.out]; rintro e x2 ⟨rfl, GX⟩; obtain ⟨y0, y1, y2, fy⟩ := row3 (GX.get 3 rfl)) | (go_at_call 29; refine (RPlace_h GX 2 rfl h ⟨10, a, b⟩ NN.out).mono ?_; rw [← HAT.out]; rintro e x3 ⟨rfl, GY⟩; obtain ⟨z0, z1, z2, fz⟩ := row3 (GY.get 3 rfl)))
    go_wp2_with fail
    go_ret
    exact ⟨rfl, GY.below⟩
  by_cases k13 : kk = 13
  · subst k13
    go_wp2_with fail
    have GT := G6.blkNew #[.int .i64 13, .int .i64 a, .int .i64 b] 48
    have hnorm : Norm ⟨13, a, b⟩ := ⟨by dsimp only; omega, fun q => by (try dsimp only at q ⊢) <;> omega, fun q => by (try dsimp only at q ⊢) <;> omega⟩
    have NN := Lib.hid hnorm
    clear hnorm
    obtain ⟨AT, hAT⟩ : ∃ AT, AT = c.atOf ⟨13, a, b⟩ := ⟨_, rfl⟩
    have HAT := Lib.hid hAT
    clear hAT
    have g2 : (AT == AT) = true := by simp
    obtain ⟨WT, GW, eW⟩ := GT.name
    rw [← eW.out]
    clear GT
    obtain ⟨t0, t1, t2, ft⟩ := row3 (GW.get 3 rfl)
    go_region_held3 (fun w' => w'.cell? ⟨w6.heap.size, 0, none⟩ = some (.int .i64 13) ∧ w'.cell? ⟨w6.heap.size, 1, none⟩ = some (.int .i64 a) ∧ w'.cell? ⟨w6.heap.size, 2, none⟩ = some (.int .i64 b)) ((refine ⟨?_, ?_, ?_⟩ <;> (first | (with_reducible assumption) | (simp only [cell_drewN1, cell_drew1]; with_reducible assumption)))) (first | (go_at_call 27; refine (Len_q ((GW.drewN _).mAt 1 rfl h)).mono ?_; rintro e x1 ⟨rfl, d1, rfl⟩) | (go_at_call 28; refine (At_h (GW.drewN _) 1 rfl h ⟨13, a, b⟩ NN.out.k (by dsimp only; omega)).mono ?_; rw [← HAT.out]; rintro e x2 ⟨rfl, GX⟩; obtain ⟨y0, y1, y2, fy⟩ := row3 (GX.get 3 rfl)) | (go_at_call 29; refine (RPlace_h GX 2 rfl h ⟨13, a, b⟩ NN.out).mono ?_; rw [← HAT.out]; rintro e x3 ⟨rfl, GY⟩; obtain ⟨z0, z1, z2, fz⟩ := row3 (GY.get 3 rfl)))
    go_wp2_with fail
    go_ret
    exact ⟨rfl, GY.below⟩
  by_cases k18 : kk = 18
  · subst k18
    go_wp2_with fail
    have GT := G6.blkNew #[.int .i64 18, .int .i64 a, .int .i64 b] 48
    have hnorm : Norm ⟨18, a, b⟩ := ⟨by dsimp only; omega, fun q => by (try dsimp only at q ⊢) <;> omega, fun q => by (try dsimp only at q ⊢) <;> omega⟩
    have NN := Lib.hid hnorm
    clear hnorm
    obtain ⟨AT, hAT⟩ : ∃ AT, AT = c.atOf ⟨18, a, b⟩ := ⟨_, rfl⟩
    have HAT := Lib.hid hAT
    clear hAT
    have g2 : (AT == AT) = true := by simp
    obtain ⟨WT, GW, eW⟩ := GT.name
    rw [← eW.out]
    clear GT
    obtain ⟨t0, t1, t2, ft⟩ := row3 (GW.get 3 rfl)
    go_region_held3 (fun w' => w'.cell? ⟨w6.heap.size, 0, none⟩ = some (.int .i64 18) ∧ w'.cell? ⟨w6.heap.size, 1, none⟩ = some (.int .i64 a) ∧ w'.cell? ⟨w6.heap.size, 2, none⟩ = some (.int .i64 b)) ((refine ⟨?_, ?_, ?_⟩ <;> (first | (with_reducible assumption) | (simp only [cell_drewN1, cell_drew1]; with_reducible assumption)))) (first | (go_at_call 27; refine (Len_q ((GW.drewN _).mAt 1 rfl h)).mono ?_; rintro e x1 ⟨rfl, d1, rfl⟩) | (go_at_call 28; refine (At_h (GW.drewN _) 1 rfl h ⟨18, a, b⟩ NN.out.k (by dsimp only; omega)).mono ?_; rw [← HAT.out]; rintro e x2 ⟨rfl, GX⟩; obtain ⟨y0, y1, y2, fy⟩ := row3 (GX.get 3 rfl)) | (go_at_call 29; refine (RPlace_h GX 2 rfl h ⟨18, a, b⟩ NN.out).mono ?_; rw [← HAT.out]; rintro e x3 ⟨rfl, GY⟩; obtain ⟨z0, z1, z2, fz⟩ := row3 (GY.get 3 rfl)))
    go_wp2_with fail
    go_ret
    exact ⟨rfl, GY.below⟩
  · have f0 : 5 < kk := by omega
    have f1 : (kk == 10) = false := by simp; omega
    have f2 : (kk == 13) = false := by simp; omega
    have f3 : (kk == 18) = false := by simp; omega
    go_wp2_with fail
    have GT := G6.blkNew #[.int .i64 kk, .int .i64 a, .int .i64 0] 48
    have hnorm : Norm ⟨kk, a, 0⟩ := ⟨by dsimp only; omega, fun q => by (try dsimp only at q ⊢) <;> omega, fun q => by (try dsimp only at q ⊢) <;> omega⟩
    have NN := Lib.hid hnorm
    clear hnorm
    obtain ⟨AT, hAT⟩ : ∃ AT, AT = c.atOf ⟨kk, a, 0⟩ := ⟨_, rfl⟩
    have HAT := Lib.hid hAT
    clear hAT
    have g2 : (AT == AT) = true := by simp
    obtain ⟨WT, GW, eW⟩ := GT.name
    rw [← eW.out]
    clear GT
    obtain ⟨t0, t1, t2, ft⟩ := row3 (GW.get 3 rfl)
    go_region_held3 (fun w' => w'.cell? ⟨w6.heap.size, 0, none⟩ = some (.int .i64 kk) ∧ w'.cell? ⟨w6.heap.size, 1, none⟩ = some (.int .i64 a) ∧ w'.cell? ⟨w6.heap.size, 2, none⟩ = some (.int .i64 0)) ((refine ⟨?_, ?_, ?_⟩ <;> (first | (with_reducible assumption) | (simp only [cell_drewN1, cell_drew1]; with_reducible assumption)))) (first | (go_at_call 27; refine (Len_q ((GW.drewN _).mAt 1 rfl h)).mono ?_; rintro e x1 ⟨rfl, d1, rfl⟩) | (go_at_call 28; refine (At_h (GW.drewN _) 1 rfl h ⟨kk, a, 0⟩ NN.out.k (by dsimp only; omega)).mono ?_; rw [← HAT.out]; rintro e x2 ⟨rfl, GX⟩; obtain ⟨y0, y1, y2, fy⟩ := row3 (GX.get 3 rfl)) | (go_at_call 29; refine (RPlace_h GX 2 rfl h ⟨kk, a, 0⟩ NN.out).mono ?_; rw [← HAT.out]; rintro e x3 ⟨rfl, GY⟩; obtain ⟨z0, z1, z2, fz⟩ := row3 (GY.get 3 rfl)))
    go_wp2_with fail
    go_ret
    exact ⟨rfl, GY.below⟩

set_option maxRecDepth 100000 in
theorem places_no (c : Cfg) (h : cfgOk c = false) (v a b : Int) (w : World) :
    Calls Try.prog 6 #[cfgV c, .int .u8 v, .int .i64 a, .int .i64 b] w fun e w' => e = .returned (.bool true) ∧ Below w.heap.size w w' := by
  have HOK := Lib.hid h
  clear h
  unfold cfgV cfgCells
  go_enter Try.func6, Try.ntmps6
  have G0 := (Has.nil w).blkNew (cfgCells c) 24
  go_wp2_with fail
  refine (awake5 _).mono ?_
  rintro e w1 ⟨rfl, q1⟩
  have G1 := G0.up q1
  obtain ⟨b0, b1, b2, b3, b4, b5, b6, b7, b8, b9, b10, b11, fb⟩ := row12 (G1.get 0 rfl)
  clear G0 q1
  go_wp2_with fail
  refine (model_c c _).mono ?_
  rintro e w2 ⟨rfl, q2⟩
  have G2 := G1.up q2
  clear G1 q2 b0 b1 b2 b3 b4 b5 b6 b7 b8 b9 b10 b11 fb
  go_wp2_with fail
  refine (RCheck_c c _).mono ?_
  rw [HOK.out]
  rintro e w3 ⟨rfl, q3⟩
  have G3 := G2.up q3
  have he : errB false = 21 := rfl
  rw [he]
  clear he
  go_wp2_with fail
  go_ret
  exact ⟨rfl, G3.below⟩

theorem walk_LayoutPlaces (c0 c1 c2 c3 c4 mr mu dq ch bf rt sw v a b : Int) (w : World) (v0 : 0 ≤ v) (v1 : v < 256) (hb : b ≤ 9223372036854775807) :
    Calls Try.prog 6 #[.agg #[.int .i64 c0, .int .i64 c1, .int .i64 c2, .int .i64 c3, .int .i64 c4, .int .i64 mr, .int .i64 mu, .int .i64 dq, .int .i64 ch, .int .i64 bf, .int .i64 rt, .int .i64 sw], .int .u8 v, .int .i64 a, .int .i64 b] w fun e w' => e = .returned (.bool true) ∧ Below w.heap.size w w' := by
  cases h : cfgOk ⟨c0, c1, c2, c3, c4, mr, mu, dq, ch, bf, rt, sw⟩ with
  | true => exact places_ok ⟨c0, c1, c2, c3, c4, mr, mu, dq, ch, bf, rt, sw⟩ ((cfgOk_iff _).1 h) v a b v0 v1 hb w
  | false => exact places_no ⟨c0, c1, c2, c3, c4, mr, mu, dq, ch, bf, rt, sw⟩ h v a b w

end Go.Proofs.Ytjfemakkjfpdhaa
