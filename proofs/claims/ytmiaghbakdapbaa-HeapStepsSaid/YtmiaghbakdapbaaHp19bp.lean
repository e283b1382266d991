/- How many steps a node takes at most, in plain Lean. Condition: the configuration may be. -/
import Derived.Test.YtmiaghbakdapbaaHp19m
import Derived.Test.YtmiaghbakdapbaaHp19g
set_option linter.unusedVariables false
set_option linter.unusedSimpArgs false
namespace Go.Proofs.Ytmiaghbakdapbaa
open Go.ChangeShapes Go.WideShapes Go.ChangeAt Go.RowKit

/-- What holds of a machine with a class, ahead of a step: so many steps are left at most. -/
def HbR (c : Cfg) (k f0 : Int) (l : List Int) (m : Hp) (r : Int) : Prop :=
  (m.pc = 0 ∧ 0 ≤ r) ∨
  (m.pc = 1 ∧ mld l (c.headAt k) % 4294967296 = f0 ∧ m.i = 0 ∧ 0 ≤ m.tries ∧ m.tries ≤ 3 ∧ 3 * (4 - m.tries) + 3 + sSlots k ≤ r) ∨
  (m.pc = 2 ∧ mld l (c.headAt k) % 4294967296 = f0 ∧ f0 ≠ 0 ∧ m.v = f0 ∧ m.i = 0 ∧ 1 ≤ m.tries ∧ m.tries ≤ 4 ∧ 3 * (4 - m.tries) + 5 + sSlots k ≤ r) ∨
  (m.pc = 3 ∧ mld l (c.headAt k) % 4294967296 = f0 ∧ f0 ≠ 0 ∧ m.v = f0 ∧ m.i = 0 ∧ 1 ≤ m.tries ∧ m.tries ≤ 4 ∧ 3 * (4 - m.tries) + 4 + sSlots k ≤ r) ∨
  (m.pc = 4 ∧ c.roomAt m.v = sSlots k ∧ m.i = 0 ∧ 3 + sSlots k ≤ r) ∨
  (m.pc = 5 ∧ c.roomAt m.v = sSlots k ∧ 0 ≤ m.i ∧ m.i < sSlots k ∧ 2 + sSlots k - m.i ≤ r) ∨
  (m.pc = 6 ∧ 2 ≤ r) ∨ (m.pc = 7 ∧ 1 ≤ r)

theorem sSlots_hi (k : Int) : sSlots k ≤ 16 := by unfold sSlots; (repeat' split) <;> omega
theorem wrap64_id19 (x : Int) (h0 : -9223372036854775808 ≤ x) (h1 : x < 9223372036854775808) : wrap64 x = x := by unfold wrap64; omega

theorem hpRest_5 {c : Cfg} {v i : Int} (h : i < c.roomAt v) : hpRest c v i = 5 := by unfold hpRest; rw [decide_eq_true h]; rfl
theorem hpRest_6 {c : Cfg} {v i : Int} (h : ¬ i < c.roomAt v) : hpRest c v i = 6 := by unfold hpRest; rw [decide_eq_false h]; rfl

/-- A step makes what is left one less. -/
theorem hbR_step {c : Cfg} {k f0 : Int} {l : List Int} {m : Hp} {r : Int} (hf : f0 ≠ 0 → c.roomAt f0 = sSlots k) (hk : m.cls = k) (h : HbR c k f0 l m r) (hp : m.pc ≠ 0) : HbR c k f0 (hpStep c l m).1 (hpStep c l m).2 (r - 1) := by
  obtain ⟨s, k', mk, hh, lk, v, tk, tr, ii, nd, e, ek, ea, eb, pc⟩ := m
  unfold HbR at h
  dsimp only at hk h hp
  subst hk
  have hS := sSlots_hi k'
  have hS0 := (sSlots_bd k').1
  rcases h with ⟨rfl, -⟩ | ⟨rfl, h1, h2, h3, h4, h5⟩ | ⟨rfl, h1, h2, h3, h4, h5, h6, h7⟩ | ⟨rfl, h1, h2, h3, h4, h5, h6, h7⟩ | ⟨rfl, h1, h2, h3⟩ | ⟨rfl, h1, h2, h3, h4⟩ | ⟨rfl, h1⟩ | ⟨rfl, h1⟩
  · exact absurd rfl hp
  · show HbR c k' f0 l ⟨s, k', mk, mld l (c.headAt k'), lk, mld l (c.headAt k') % 4294967296, tk, wrap64 (tr + 1), ii, nd, hpE (mld l (c.headAt k') % 4294967296 == 0) 22 e, 0, 0, 0, hpPc (mld l (c.headAt k') % 4294967296 == 0) 0 2⟩ (r - 1)
    rw [h1]
    by_cases hz : f0 = 0
    · left
      refine ⟨?_, by omega⟩
      show hpPc (f0 == 0) 0 2 = 0
      rw [hz]; rfl
    · right; right; left
      have ez : (f0 == 0) = false := by simpa using hz
      rw [wrap64_id19 _ (by omega) (by omega)]
      exact ⟨by show hpPc (f0 == 0) 0 2 = 2; rw [ez]; rfl, h1, hz, rfl, h2, by show 1 ≤ tr + 1; omega, by show tr + 1 ≤ 4; omega, by show 3 * (4 - (tr + 1)) + 5 + sSlots k' ≤ r - 1; omega⟩
  · right; right; right; left
    exact ⟨rfl, h1, h2, h3, h4, h5, h6, by show 3 * (4 - tr) + 4 + sSlots k' ≤ r - 1; omega⟩
  · show HbR c k' f0 (mswap l (c.headAt k') hh (wTurn hh lk)) ⟨s, k', mk, hh, lk, v, mswapped l (c.headAt k') hh, tr, ii, nd, hpE (mswapped l (c.headAt k') hh) e (hpE (tr == 4) 23 e), 0, 0, 0, hpPc (mswapped l (c.headAt k') hh) 4 (hpPc (tr == 4) 0 1)⟩ (r - 1)
    cases hw : mswapped l (c.headAt k') hh with
    | true =>
      right; right; right; right; left
      exact ⟨rfl, by show c.roomAt v = _; rw [h3]; exact hf h2, h4, by show 3 + sSlots k' ≤ r - 1; omega⟩
    | false =>
      have em : mswap l (c.headAt k') hh (wTurn hh lk) = l := by unfold mswap; rw [hw]; rfl
      rw [em]
      by_cases h4' : tr = 4
      · left
        refine ⟨?_, by omega⟩
        show hpPc false 4 (hpPc (tr == 4) 0 1) = 0
        rw [h4']; rfl
      · right; left
        have ez : (tr == 4) = false := by simpa using h4'
        exact ⟨by show hpPc false 4 (hpPc (tr == 4) 0 1) = 1; rw [ez]; rfl, h1, h4, by show 0 ≤ tr; omega, by show tr ≤ 3; omega, by show 3 * (4 - tr) + 3 + sSlots k' ≤ r - 1; omega⟩
  · show HbR c k' f0 (mput l (c.nodeAt v 0) (IntKind.u64.wrap s)) ⟨s, k', mk, hh, lk, v, tk, tr, ii, nd, e, 0, 0, 0, hpRest c v ii⟩ (r - 1)
    by_cases hr : ii < c.roomAt v
    · rw [hpRest_5 hr]
      right; right; right; right; right; left
      exact ⟨rfl, h1, by show 0 ≤ ii; omega, by show ii < sSlots k'; omega, by show 2 + sSlots k' - ii ≤ r - 1; omega⟩
    · rw [hpRest_6 hr]
      right; right; right; right; right; right; left
      exact ⟨rfl, by omega⟩
  · show HbR c k' f0 (mput l (c.slotAt v ii) 0) ⟨s, k', mk, hh, lk, v, tk, tr, wrap64 (ii + 1), nd, e, 0, 0, 0, hpRest c v (wrap64 (ii + 1))⟩ (r - 1)
    rw [wrap64_id19 _ (by omega) (by omega)]
    by_cases hr : ii + 1 < c.roomAt v
    · rw [hpRest_5 hr]
      right; right; right; right; right; left
      exact ⟨rfl, h1, by show 0 ≤ ii + 1; omega, by show ii + 1 < sSlots k'; omega, by show 2 + sSlots k' - (ii + 1) ≤ r - 1; omega⟩
    · rw [hpRest_6 hr]
      right; right; right; right; right; right; left
      exact ⟨rfl, by omega⟩
  · right; right; right; right; right; right; right
    exact ⟨rfl, by omega⟩
  · left
    exact ⟨rfl, by omega⟩

/-- A change of a class's head that keeps its low number. -/
theorem hbR_put {c : Cfg} {k f0 : Int} {l : List Int} {m : Hp} {r : Int} (x : Int) (hx : x % 4294967296 = mld l (c.headAt k) % 4294967296) (hi : 0 ≤ c.headAt k ∧ c.headAt k < l.length) (h : HbR c k f0 l m r) : HbR c k f0 (mput l (c.headAt k) x) m r := by
  have e : mld (mput l (c.headAt k) x) (c.headAt k) % 4294967296 = mld l (c.headAt k) % 4294967296 := by rw [mld_mput_same hi, hx]
  unfold HbR at h ⊢
  rw [e]
  exact h


structure HbI (c : Cfg) (sl : Int) (l : List Int) (m : Hp) (n : Int) : Prop where
  len : l.length = c.first.length
  wm : Wm l
  ok : HpOk m
  hmk : m.mark = 1
  cls : m.cls = sOf sl
  n0 : 0 ≤ n
  rk : (sOf sl < 0 ∧ m.pc = 0 ∧ n = 0) ∨ (0 ≤ sOf sl ∧ m.pc ≠ 0 ∧ HbR c (sOf sl) (mld c.first (c.headAt (sOf sl))) l m (hpWant sl - n))

theorem sOf_bd (n : Int) : -1 ≤ sOf n ∧ sOf n ≤ 4 := by unfold sOf; (repeat' split) <;> omega
theorem sOf_five (n : Int) : sOf n < 5 := by have := sOf_bd n; omega

theorem hbR_pos {c : Cfg} {k f0 : Int} {l : List Int} {m : Hp} {r : Int} (h : HbR c k f0 l m r) (hp : m.pc ≠ 0) : 1 ≤ r := by
  have hS0 := (sSlots_bd k).1
  rcases h with ⟨h0, -⟩ | ⟨-, h1, h2, h3, h4, h5⟩ | ⟨-, h1, h2, h3, h4, h5, h6, h7⟩ | ⟨-, h1, h2, h3, h4, h5, h6, h7⟩ | ⟨-, h1, h2, h3⟩ | ⟨-, h1, h2, h3, h4⟩ | ⟨-, h1⟩ | ⟨-, h1⟩
  · exact absurd h0 hp
  all_goals omega

theorem first_mod {c : Cfg} (h : CfgOk c) (a : Int) : mld c.first a % 4294967296 = mld c.first a := by
  by_cases h0 : 0 ≤ a ∧ a < c.first.length
  · have hs := Small.getD (first_small h) a.toNat
    rw [mld_in h0]
    omega
  · rw [mld_out h0]; rfl

theorem hbI_new {c : Cfg} (h : CfgOk c) (sl : Int) : HbI c sl c.first (hpNew sl 1) 0 := by
  refine ⟨rfl, wm_first h, hpOk_new _ _, rfl, rfl, by omega, ?_⟩
  have hb := sOf_bd sl
  by_cases hk : 0 ≤ sOf sl
  · right
    have e : (hpNew sl 1).pc = 1 := by show hpPc (decide (0 ≤ sOf sl)) 1 0 = 1; rw [decide_eq_true hk]; rfl
    refine ⟨hk, by omega, .inr (.inl ⟨e, ?_, rfl, by show (0 : Int) ≤ 0; omega, by show (0 : Int) ≤ 3; omega, ?_⟩)⟩
    · exact first_mod h _
    · show 3 * (4 - 0) + 3 + sSlots (sOf sl) ≤ hpWant sl - 0
      unfold hpWant; rw [if_pos hk]; omega
  · left
    refine ⟨by omega, ?_, rfl⟩
    show hpPc (decide (0 ≤ sOf sl)) 1 0 = 0
    rw [decide_eq_false hk]; rfl

/-- A step that ends it. -/
theorem hbI_done {c : Cfg} {sl : Int} {l : List Int} {m : Hp} {n : Int} (h : HbI c sl l m n) : n < max (hpWant sl) 1 ∧ n < 60 := by
  have hS := sSlots_hi (sOf sl)
  have hS0 := (sSlots_bd (sOf sl)).1
  rcases h.rk with ⟨h1, -, h2⟩ | ⟨h1, h2, h3⟩
  · omega
  · have := hbR_pos h3 h2
    unfold hpWant at this ⊢
    rw [if_pos h1] at this ⊢
    omega
/-- A step that does not. -/
theorem hbI_step {c : Cfg} (hc : CfgOk c) {sl : Int} {l : List Int} {m : Hp} {n : Int} (h : HbI c sl l m n) (hp : (hpStep c l m).2.pc ≠ 0) : HbI c sl (hpStep c l m).1 (hpStep c l m).2 (n + 1) ∧ 0 ≤ sOf sl := by
  have fx := hpStep_fix c l m
  rcases h.rk with ⟨h1, h2, h3⟩ | ⟨h1, h2, h3⟩
  · exfalso
    apply hp
    obtain ⟨s, k', mk, hh, lk, v, tk, tr, ii, nd, e, ek, ea, eb, pc⟩ := m
    dsimp only at h2
    subst h2
    rfl
  · have hmk := h.hmk
    refine ⟨⟨by rw [hpStep_len]; exact h.len, wm_step h.ok (by omega) h.wm, hpOk_step h.ok (wm_mld h.wm), by rw [fx.2.2]; exact h.hmk, by rw [fx.2.1]; exact h.cls, by have := h.n0; omega, .inr ⟨h1, hp, ?_⟩⟩, h1⟩
    have hf : mld c.first (c.headAt (sOf sl)) ≠ 0 → c.roomAt (mld c.first (c.headAt (sOf sl))) = sSlots (sOf sl) := fun q => by
      rcases head_ok hc (sOf sl) h1 (sOf_five sl) with e | e
      · exact absurd e q
      · exact e.2.2
    have := hbR_step hf h.cls h3 h2
    have e : hpWant sl - n - 1 = hpWant sl - (n + 1) := by omega
    rw [e] at this
    exact this
theorem hbI_put {c : Cfg} (hc : CfgOk c) {sl : Int} {l : List Int} {m : Hp} {n : Int} (h : HbI c sl l m n) (hk : 0 ≤ sOf sl) (x : Int) (hx : 0 ≤ x ∧ x < 18446744073709551616) (hl : x % 4294967296 = mld l (c.headAt (sOf sl)) % 4294967296) : HbI c sl (mput l (c.headAt (sOf sl)) x) m n := by
  refine ⟨by rw [mput_length]; exact h.len, wm_put h.wm _ _ hx, h.ok, h.hmk, h.cls, h.n0, ?_⟩
  rcases h.rk with ⟨h1, h2, h3⟩ | ⟨h1, h2, h3⟩
  · omega
  · refine .inr ⟨h1, h2, hbR_put x hl ?_ h3⟩
    have := at_in hc (mem_head hc (sOf sl) h1 (sOf_five sl))
    rw [atOf7] at this
    rw [h.len]
    exact this
end Go.Proofs.Ytmiaghbakdapbaa
