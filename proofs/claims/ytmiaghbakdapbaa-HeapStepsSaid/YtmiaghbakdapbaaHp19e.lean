/- One step of a machine that makes a node, whole. -/
import Derived.Test.YtmiaghbakdapbaaHp19d
set_option linter.unusedVariables false
set_option linter.unusedSimpArgs false
namespace Go.Proofs.Ytmiaghbakdapbaa
open Go.ChangeShapes Go.WideShapes Go.ChangeAt Go.RowKit

/-- What a machine keeps from step to step. -/
structure HpOk (m : Hp) : Prop where
  ev : m.pc = 0 ∨ (m.ek = 0 ∧ m.ea = 0 ∧ m.eb = 0)
  h0 : 0 ≤ m.h ∧ m.h < 18446744073709551616
  l0 : 0 ≤ m.link ∧ m.link < 4294967296
  pc7 : m.pc ≤ 7

theorem hpOk_new (a b : Int) : HpOk (hpNew a b) := by
  refine ⟨.inr ⟨rfl, rfl, rfl⟩, by show (0 : Int) ≤ 0 ∧ (0 : Int) < 18446744073709551616; decide, by show (0 : Int) ≤ 0 ∧ (0 : Int) < 4294967296; decide, ?_⟩
  show hpPc (decide (0 ≤ sOf a)) 1 0 ≤ 7
  cases decide (0 ≤ sOf a) <;> decide

theorem hpRest_le (c : Cfg) (v i : Int) : hpRest c v i ≤ 7 := by unfold hpRest; cases decide (i < c.roomAt v) <;> decide
theorem hpPc_le (b : Bool) {x y : Nat} (hx : x ≤ 7) (hy : y ≤ 7) : hpPc b x y ≤ 7 := by cases b <;> assumption
theorem hpOk_step {c : Cfg} {l : List Int} {m : Hp} (hm : HpOk m) (hl : ∀ a, 0 ≤ mld l a ∧ mld l a < 18446744073709551616) : HpOk (hpStep c l m).2 := by
  obtain ⟨s, k, mk, hh, lk, v, tk, tr, ii, nd, e, ek, ea, eb, pc⟩ := m
  obtain ⟨ev, h0, l0, pc7⟩ := hm
  dsimp only at ev h0 l0 pc7
  have h7 : pc = 0 ∨ pc = 1 ∨ pc = 2 ∨ pc = 3 ∨ pc = 4 ∨ pc = 5 ∨ pc = 6 ∨ pc = 7 := by omega
  rcases h7 with rfl | rfl | rfl | rfl | rfl | rfl | rfl | rfl
  · exact ⟨.inl rfl, h0, l0, by show 0 ≤ 7; decide⟩
  · exact ⟨.inr ⟨rfl, rfl, rfl⟩, hl _, l0, hpPc_le _ (by decide) (by decide)⟩
  · exact ⟨.inr ⟨rfl, rfl, rfl⟩, h0, ⟨Int.emod_nonneg _ (by decide), Int.emod_lt_of_pos _ (by decide)⟩, by show 3 ≤ 7; decide⟩
  · exact ⟨.inr ⟨rfl, rfl, rfl⟩, h0, l0, hpPc_le _ (by decide) (hpPc_le _ (by decide) (by decide))⟩
  · exact ⟨.inr ⟨rfl, rfl, rfl⟩, h0, l0, hpRest_le _ _ _⟩
  · exact ⟨.inr ⟨rfl, rfl, rfl⟩, h0, l0, hpRest_le _ _ _⟩
  · exact ⟨.inr ⟨rfl, rfl, rfl⟩, h0, l0, by show 7 ≤ 7; decide⟩
  · exact ⟨.inl rfl, h0, l0, by show 0 ≤ 7; decide⟩

theorem hpStep_h {w0 w : World} {cs : List (Chunk w0.heap.size)} (H : Has w0 w cs) (i j q : Nat) {sb g xb mb : Nat} {l : List Int} {n : Int} {av rv : Value} {c : Cfg} (hi : cs[i]? = some (storeC _ sb g l n)) (hq : cs[q]? = some (mapC _ mb av rv c)) (hij : i ≠ j) (hqj : q ≠ j) (hiq : i ≠ q) (h : CfgOk c) (m : Hp) (hj : cs[j]? = some (hpC _ xb mb m)) (hm : HpOk m) (hl : ∀ a, 0 ≤ mld l a ∧ mld l a < 18446744073709551616) :
    Calls Try.prog 17 #[.pointer (some ⟨xb, 0, none⟩), .pointer (some ⟨sb, 0, none⟩)] w fun r w' => r = .returned (.bool ((hpStep c l m).2.pc == 0)) ∧
      Has w0 w' ((cs.set i (storeC _ sb g (hpStep c l m).1 (hpCount m n))).set j (hpC _ xb mb (hpStep c l m).2)) := by
  obtain ⟨s, k, mk, hh, lk, v, tk, tr, ii, nd, e, ek, ea, eb, pc⟩ := m
  obtain ⟨ev, h0, l0, pc7⟩ := hm
  dsimp only at ev h0 l0 pc7
  by_cases hp : pc = 0
  · subst hp
    refine (hpZ0_h H j s k mk hh lk v tk tr ii nd e ek ea eb hj).mono ?_
    rintro r w1 ⟨rfl, H1⟩
    refine ⟨rfl, ?_⟩
    show Has w0 w1 ((cs.set i (storeC _ sb g l n)).set j _)
    rw [lset_is19 hi]
    exact H1
  · obtain ⟨rfl, rfl, rfl⟩ : ek = 0 ∧ ea = 0 ∧ eb = 0 := ev.resolve_left hp
    have h7 : pc = 1 ∨ pc = 2 ∨ pc = 3 ∨ pc = 4 ∨ pc = 5 ∨ pc = 6 ∨ pc = 7 := by omega
    rcases h7 with rfl | rfl | rfl | rfl | rfl | rfl | rfl
    · exact hpZ1_h H i j q hi hq hij hqj h s k mk hh lk v tk tr ii nd e hj (hl _)
    · exact hpZ2_h H i j q hi hq hij hqj h s k mk hh lk v tk tr ii nd e hj
    · exact hpZ3_h H i j q hi hq hij hqj h s k mk hh lk v tk tr ii nd e hj ⟨h0.1, h0.2, l0.1, l0.2⟩
    · refine (hpZ4_h H i j q hi hq hij hqj h s k mk hh lk v tk tr ii nd e hj hiq).mono ?_
      rintro r w1 ⟨rfl, H1⟩
      refine ⟨?_, H1⟩
      show _ = Ending.returned (.bool (hpRest c v ii == 0))
      unfold hpRest; cases decide (ii < c.roomAt v) <;> rfl
    · refine (hpZ5_h H i j q hi hq hij hqj h s k mk hh lk v tk tr ii nd e hj hiq).mono ?_
      rintro r w1 ⟨rfl, H1⟩
      refine ⟨?_, H1⟩
      show _ = Ending.returned (.bool (hpRest c v (wrap64 (ii + 1)) == 0))
      unfold hpRest; cases decide (wrap64 (ii + 1) < c.roomAt v) <;> rfl
    · exact hpZ6_h H i j q hi hq hij hqj h s k mk hh lk v tk tr ii nd e hj
    · exact hpZ7_h H i j q hi hq hij hqj h s k mk hh lk v tk tr ii nd e hj
end Go.Proofs.Ytmiaghbakdapbaa
