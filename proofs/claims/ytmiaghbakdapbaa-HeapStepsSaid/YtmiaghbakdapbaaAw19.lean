/- awake of layer 19. -/
import Derived.Test.YtmiaghbakdapbaaHp19bp
import Derived.Test.YtmiaghbakdapbaaMeth19
import Derived.LoopN
set_option linter.unusedVariables false
set_option linter.unusedSimpArgs false
namespace Go.Proofs.Ytmiaghbakdapbaa
open Go.ChangeShapes Go.WideShapes Go.ChangeAt Go.RowKit

theorem sl_of_ownN {w : World} {e : TypeId} {k : IntKind} {v : Value} {xs : List Int} (h : Own w e 1 v xs.length (xs.map (Value.int k))) : Sl w [] k v xs := by
  obtain ⟨a, c, rfl⟩ := own_is h
  by_cases hx : xs = []
  · subst hx
    exact ⟨a, c, rfl, by simp, .inl rfl⟩
  · have hl : 0 < xs.length := List.length_pos_iff.2 hx
    obtain ⟨g, off, rfl, hc, -, hg, hcell, -⟩ := own_atV h hl
    refine ⟨_, c, rfl, hc, .inr ⟨g, off, rfl, hg, by simp, fun j hj => hcell j _ ?_⟩⟩
    rw [List.getElem?_map, List.getElem?_eq_getElem hj]
    rfl

def c12 (k : Int) : Cfg := ⟨k, 0, 0, 0, 0, 1, 1, 2, 1, 1, 1, 1⟩
theorem c12_ok2 : CfgOk (c12 2) := (cfgOk_iff _).1 (by rfl)
def aA0 : List Int := (c12 2).first
def aA3 : List Int := mswap aA0 ((c12 2).headAt 0) 1 (wTurn 1 0)
def aA4 : List Int := mput aA3 ((c12 2).nodeAt 1 0) 1
def aA5 : List Int := mput aA4 ((c12 2).slotAt 1 0) 0
def aA6 : List Int := mput aA5 ((c12 2).nodeAt 1 2) 5
def aA7 : List Int := mput aA6 ((c12 2).nodeAt 1 1) 1
def aM1 : Hp := ⟨1, 0, 5, 1, 0, 1, false, 1, 0, 0, 0, 0, 0, 0, 2⟩
def aM2 : Hp := ⟨1, 0, 5, 1, 0, 1, false, 1, 0, 0, 0, 0, 0, 0, 3⟩
def aM3 : Hp := ⟨1, 0, 5, 1, 0, 1, true, 1, 0, 0, 0, 0, 0, 0, 4⟩
def aM4 : Hp := ⟨1, 0, 5, 1, 0, 1, true, 1, 0, 0, 0, 0, 0, 0, 5⟩
def aM5 : Hp := ⟨1, 0, 5, 1, 0, 1, true, 1, 1, 0, 0, 0, 0, 0, 6⟩
def aM6 : Hp := ⟨1, 0, 5, 1, 0, 1, true, 1, 1, 0, 0, 0, 0, 0, 7⟩
def aM7 : Hp := ⟨1, 0, 5, 1, 0, 1, false, 1, 1, 1, 0, 8, 1, 1, 0⟩
def aN1 : Hp := ⟨2, 1, 5, 0, 0, 0, false, 1, 0, 0, 22, 0, 0, 0, 0⟩
theorem aw1 : hpStep (c12 2) aA0 (hpNew 1 5) = (aA0, aM1) := by kernel_rfl
theorem aw2 : hpStep (c12 2) aA0 aM1 = (aA0, aM2) := by kernel_rfl
theorem aw3 : hpStep (c12 2) aA0 aM2 = (aA3, aM3) := by kernel_rfl
theorem aw4 : hpStep (c12 2) aA3 aM3 = (aA4, aM4) := by kernel_rfl
theorem aw5 : hpStep (c12 2) aA4 aM4 = (aA5, aM5) := by kernel_rfl
theorem aw6 : hpStep (c12 2) aA5 aM5 = (aA6, aM6) := by kernel_rfl
theorem aw7 : hpStep (c12 2) aA6 aM6 = (aA7, aM7) := by kernel_rfl
theorem aw8 : hpStep (c12 2) aA7 (hpNew 2 5) = (aA7, aN1) := by kernel_rfl
theorem aw9 : mld aA7 ((c12 2).nodeAt 1 2) = 5 := by kernel_rfl
theorem aw10 : mld aA7 ((c12 2).nodeAt 1 1) = 1 := by kernel_rfl
theorem aw11 : mld aA7 ((c12 2).nodeAt 1 0) = 1 := by kernel_rfl
theorem awW0 : Wm aA0 := wm_first c12_ok2
theorem awW3 : Wm aA3 := wm_swap awW0 _ _ _ (by decide)
theorem awW4 : Wm aA4 := wm_put awW3 _ _ (by decide)
theorem awW5 : Wm aA5 := wm_put awW4 _ _ (by decide)
theorem awW6 : Wm aA6 := wm_put awW5 _ _ (by decide)
theorem awW7 : Wm aA7 := wm_put awW6 _ _ (by decide)
theorem ao {l l' : List Int} {m m' : Hp} (e : hpStep (c12 2) l m = (l', m')) (h : HpOk m) (hw : Wm l) : HpOk m' := by
  have := hpOk_step (c := c12 2) h (wm_mld hw)
  rw [e] at this
  exact this
theorem ao1 : HpOk aM1 := ao aw1 (hpOk_new 1 5) awW0
theorem ao2 : HpOk aM2 := ao aw2 ao1 awW0
theorem ao3 : HpOk aM3 := ao aw3 ao2 awW0
theorem ao4 : HpOk aM4 := ao aw4 ao3 awW3
theorem ao5 : HpOk aM5 := ao aw5 ao4 awW4
theorem ao6 : HpOk aM6 := ao aw6 ao5 awW5

theorem awStep {w0 w : World} {mb sb g xb : Nat} {av rv : Value} {B : Chunk w0.heap.size} {l l' : List Int} {n : Int} {m m' : Hp} (b : Bool) (H : Has w0 w [mapC _ mb av rv (c12 2), B, storeC _ sb g l n, hpC _ xb mb m]) (e : hpStep (c12 2) l m = (l', m')) (eb : (m'.pc == 0) = b) (hm : HpOk m) (hl : Wm l) :
    Calls Try.prog 17 #[.pointer (some ⟨xb, 0, none⟩), .pointer (some ⟨sb, 0, none⟩)] w fun r w' => r = .returned (.bool b) ∧ ∃ n', Has w0 w' [mapC _ mb av rv (c12 2), B, storeC _ sb g l' n', hpC _ xb mb m'] := by
  refine (hpStep_h H 2 3 0 rfl rfl (by decide) (by decide) (by decide) c12_ok2 m rfl hm (wm_mld hl)).mono ?_
  rw [e]
  rintro r w' ⟨rfl, H'⟩
  exact ⟨by rw [eb], _, H'⟩

set_option maxRecDepth 100000 in
set_option maxHeartbeats 2000000 in
theorem awake19 (w : World) : Calls Try.prog 9 #[] w fun e w' => e = .returned (.bool true) ∧ Below w.heap.size w w' := by
  go_enter Try.func9, Try.ntmps9
  go_wp2_with fail
  refine (New_m (Has.nil w) (c12 2) c12_ok2).mono ?_
  rintro e w1 ⟨mb, av, rv, rfl, G1⟩
  go_wp2_with fail
  refine (First_h G1 0 rfl c12_ok2).mono ?_
  rintro e w2 ⟨g, n, rfl, G2⟩
  go_wp2_with fail
  refine (New_h G2 _ aA0 (sl_of_ownN (G2.get 1 rfl)) (first_bd c12_ok2)).mono ?_
  rintro e w3 ⟨sb, sg, rfl, G3⟩
  go_wp2_with fail
  refine (hpNew_h G3 mb 1 5).mono ?_
  rintro e w4 ⟨xb, rfl, H0⟩
  go_wp2_with fail
  refine wp_loop_rounds 7 ?_
  rw [rounds_succ]
  go_wp2_with fail
  refine (awStep false H0 aw1 rfl (hpOk_new 1 5) awW0).mono ?_
  rintro e x1 ⟨rfl, n1, H1⟩
  go_wp2_with fail
  rw [rounds_succ]
  go_wp2_with fail
  refine (awStep false H1 aw2 rfl ao1 awW0).mono ?_
  rintro e x2 ⟨rfl, n2, H2⟩
  go_wp2_with fail
  rw [rounds_succ]
  go_wp2_with fail
  refine (awStep false H2 aw3 rfl ao2 awW0).mono ?_
  rintro e x3 ⟨rfl, n3, H3⟩
  go_wp2_with fail
  rw [rounds_succ]
  go_wp2_with fail
  refine (awStep false H3 aw4 rfl ao3 awW3).mono ?_
  rintro e x4 ⟨rfl, n4, H4⟩
  go_wp2_with fail
  rw [rounds_succ]
  go_wp2_with fail
  refine (awStep false H4 aw5 rfl ao4 awW4).mono ?_
  rintro e x5 ⟨rfl, n5, H5⟩
  go_wp2_with fail
  rw [rounds_succ]
  go_wp2_with fail
  refine (awStep false H5 aw6 rfl ao5 awW5).mono ?_
  rintro e x6 ⟨rfl, n6, H6⟩
  go_wp2_with fail
  rw [rounds_succ]
  go_wp2_with fail
  refine (awStep true H6 aw7 rfl ao6 awW6).mono ?_
  rintro e x7 ⟨rfl, n7, H7⟩
  go_wp2_with fail
  refine (Node_q H7 3 aM7 rfl).mono ?_
  rintro e y1 ⟨rfl, d1, rfl⟩
  go_wp2_with fail
  refine (hpNew_h (H7.drewN d1) mb 2 5).mono ?_
  rintro e y2 ⟨yb, rfl, K2⟩
  go_wp2_with fail
  refine (hpStep_h K2 2 4 0 rfl rfl (by decide) (by decide) (by decide) c12_ok2 (hpNew 2 5) rfl (hpOk_new 2 5) (wm_mld awW7)).mono ?_
  rw [aw8]
  rintro e y3 ⟨rfl, K3⟩
  go_wp2_with fail
  refine (Node_q K3 4 aN1 rfl).mono ?_
  rintro e y4 ⟨rfl, d4, rfl⟩
  go_wp2_with fail
  refine (Mark_q ((K3.drewN _).mAt 0 rfl c12_ok2) 1).mono ?_
  rintro e y5 ⟨rfl, d5, rfl⟩
  go_wp2_with fail
  refine (Load_h (K3.drewN _) 2 rfl _).mono ?_
  rw [aw9]
  rintro e y6 ⟨rfl, K6⟩
  go_wp2_with fail
  refine (State_q (K6.mAt 0 rfl c12_ok2) 1).mono ?_
  rintro e y7 ⟨rfl, d7, rfl⟩
  go_wp2_with fail
  refine (Load_h (K6.drewN _) 2 rfl _).mono ?_
  rw [aw10]
  rintro e y8 ⟨rfl, K8⟩
  go_wp2_with fail
  refine (Header_q (K8.mAt 0 rfl c12_ok2) 1).mono ?_
  rintro e y9 ⟨rfl, d9, rfl⟩
  go_wp2_with fail
  refine (Load_h (K8.drewN _) 2 rfl _).mono ?_
  rw [aw11]
  rintro e y10 ⟨rfl, K10⟩
  go_wp2_with fail
  refine (Steps_c 3 _).mono ?_
  rw [show hpWant 3 = 19 from rfl]
  rintro e y11 ⟨rfl, d11, rfl⟩
  go_wp2_with fail
  go_ret
  exact ⟨rfl, (K10.drewN _).below⟩
end Go.Proofs.Ytmiaghbakdapbaa
