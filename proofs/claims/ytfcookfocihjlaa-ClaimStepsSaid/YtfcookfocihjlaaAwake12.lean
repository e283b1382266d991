/- awake of layer 12. -/
import Derived.Test.YtfcookfocihjlaaCl12
import Derived.LoopN
set_option linter.unusedVariables false
set_option linter.unusedSimpArgs false
namespace Go.Proofs.Ytfcookfocihjlaa
open Go.ChangeShapes Go.WideShapes Go.ChangeAt Go.RowKit

theorem sl_of_ownN {w : World} {e : TypeId} {k : IntKind} {v : Value} {xs : List Int} (h : Own w e 1 v xs.length (xs.map (Value.int k))) : Sl w [] k v xs := by
  obtain ⟨a, c, rfl⟩ := own_is h
  by_cases hx : xs = []
  · subst hx
    exact ⟨a, c, rfl, by simp, .inl rfl⟩
  · have hl : 0 < xs.length := List.length_pos_iff.2 hx
    obtain ⟨g, off, rfl, hc, -, hg, hcell, -⟩ := own_atV h hl
    refine ⟨_, c, rfl, hc, .inr ⟨g, off, rfl, hg, by simp, fun j hj => hcell j _ ?_⟩⟩
    rw [List.getElem?_map, List.getElem?_eq_getElem hj]
    rfl

def c12 (k : Int) : Cfg := ⟨k, 0, 0, 0, 0, 1, 1, 2, 1, 1, 1, 1⟩
theorem c12_ok2 : CfgOk (c12 2) := (cfgOk_iff _).1 (by rfl)
theorem c12_ok4 : CfgOk (c12 4) := (cfgOk_iff _).1 (by rfl)
def l12 (k : Int) : List Int := (c12 k).first
theorem l12_len {k : Int} (h : CfgOk (c12 k)) : (l12 k).length < 1000000000000 := by
  unfold l12; rw [first_len]; have := (cfg_bd h).al; have := (cfg_bd h).n0; omega

theorem aw1 : clStep (c12 2) (l12 2) ⟨1, 1, 0, false, 1⟩ = (l12 2, ⟨1, 1, 0, false, 2⟩) := by kernel_rfl
theorem aw2 : clStep (c12 2) (l12 2) ⟨1, 1, 0, false, 2⟩ = (madd (l12 2) 1 1, ⟨1, 1, 0, false, 3⟩) := by kernel_rfl
theorem aw3 : clStep (c12 2) (madd (l12 2) 1 1) ⟨1, 1, 0, false, 3⟩ = (mput (madd (l12 2) 1 1) ((c12 2).nodeAt 1 2) 1, ⟨1, 1, 0, true, 0⟩) := by kernel_rfl
theorem aw4 : clStep (c12 2) (mput (madd (l12 2) 1 1) ((c12 2).nodeAt 1 2) 1) ⟨1, 1, 0, false, 1⟩ = (mput (madd (l12 2) 1 1) ((c12 2).nodeAt 1 2) 1, ⟨1, 1, 1, false, 0⟩) := by kernel_rfl
theorem aw5 : mld (mput (madd (l12 2) 1 1) ((c12 2).nodeAt 1 2) 1) 1 = 1 := by kernel_rfl

set_option maxRecDepth 100000 in
set_option maxHeartbeats 2000000 in
theorem awake12 (w : World) : Calls Try.prog 8 #[] w fun e w' => e = .returned (.bool true) ∧ Below w.heap.size w w' := by
  go_enter Try.func8, Try.ntmps8
  go_wp2_with fail
  refine (New_m (Has.nil w) (c12 2) c12_ok2).mono ?_
  rintro e w1 ⟨mb, av, rv, rfl, G1⟩
  go_wp2_with fail
  refine (First_h G1 0 rfl c12_ok2).mono ?_
  rintro e w2 ⟨g, n, rfl, G2⟩
  go_wp2_with fail
  refine (New_h G2 _ (l12 2) (sl_of_ownN (G2.get 1 rfl)) (l12_len c12_ok2)).mono ?_
  rintro e w3 ⟨sb, sg, rfl, G3⟩
  go_wp2_with fail
  refine (clNew_h G3 mb 1 1).mono ?_
  rintro e w4 ⟨xb, rfl, G4⟩
  go_wp2_with fail
  refine wp_loop_rounds 3 ?_
  rw [rounds_succ]
  go_wp2_with fail
  refine (clStep_h G4 2 3 0 _ rfl rfl rfl (by decide) c12_ok2).mono ?_
  rw [aw1]
  rintro e w5 ⟨rfl, G5⟩
  go_wp2_with fail
  rw [rounds_succ]
  go_wp2_with fail
  refine (clStep_h G5 2 3 0 _ rfl rfl rfl (by decide) c12_ok2).mono ?_
  rw [aw2]
  rintro e w6 ⟨rfl, G6⟩
  go_wp2_with fail
  rw [rounds_succ]
  go_wp2_with fail
  refine (clStep_h G6 2 3 0 _ rfl rfl rfl (by decide) c12_ok2).mono ?_
  rw [aw3]
  rintro e w7 ⟨rfl, G7⟩
  go_wp2_with fail
  refine (Work_q (G7.mAt 0 rfl c12_ok2)).mono ?_
  rintro e w8 ⟨rfl, d8, rfl⟩
  go_wp2_with fail
  refine (Load_h (G7.drewN d8) 2 rfl 1).mono ?_
  rw [aw5]
  rintro e w9 ⟨rfl, G9⟩
  go_wp2_with fail
  refine (clNew_h G9 mb 1 1).mono ?_
  rintro e w10 ⟨yb, rfl, G10⟩
  go_wp2_with fail
  refine (clStep_h G10 2 4 0 _ rfl rfl rfl (by decide) c12_ok2).mono ?_
  rw [aw4]
  rintro e w11 ⟨rfl, G11⟩
  go_wp2_with fail
  refine (clWon_h G11 3 _ rfl).mono ?_
  rintro e w12 ⟨rfl, d12, rfl⟩
  go_wp2_with fail
  refine (clWon_h (G11.drewN _) 4 _ rfl).mono ?_
  rintro e w13 ⟨rfl, d13, rfl⟩
  go_wp2_with fail
  go_ret
  exact ⟨rfl, (G11.drewN _).below⟩

end Go.Proofs.Ytfcookfocihjlaa
