/- The memory of a machine that makes a node, in plain Lean: all are words, and stay so. Condition: the configuration may be. -/
import Derived.Test.YtmiaghbakdapbaaHp19e
import Derived.Test.YtmiaghbakdapbaaLists5p
set_option linter.unusedVariables false
set_option linter.unusedSimpArgs false
namespace Go.Proofs.Ytmiaghbakdapbaa
open Go.ChangeShapes Go.WideShapes Go.ChangeAt Go.RowKit

/-- All are words. -/
def Wm (l : List Int) : Prop := ∀ x ∈ l, 0 ≤ x ∧ x < 18446744073709551616
theorem wm_mld {l : List Int} (h : Wm l) (i : Int) : 0 ≤ mld l i ∧ mld l i < 18446744073709551616 := by
  by_cases h0 : 0 ≤ i ∧ i < l.length
  · rw [mld_in h0]
    have hj : i.toNat < l.length := by omega
    simp only [List.getD, List.getElem?_eq_getElem hj, Option.getD_some]
    exact h _ (List.getElem_mem hj)
  · rw [mld_out h0]; omega
theorem wm_put {l : List Int} (h : Wm l) (i x : Int) (hx : 0 ≤ x ∧ x < 18446744073709551616) : Wm (mput l i x) := by
  by_cases hi : 0 ≤ i ∧ i < l.length
  · rw [mput_in hi]
    intro y hy
    rcases List.mem_or_eq_of_mem_set hy with q | rfl
    · exact h y q
    · exact hx
  · rw [mput_out hi]; exact h
theorem wm_swap {l : List Int} (h : Wm l) (i o x : Int) (hx : 0 ≤ x ∧ x < 18446744073709551616) : Wm (mswap l i o x) := by
  unfold mswap; split
  · exact wm_put h i x hx
  · exact h
theorem wTurn_bd (x l : Int) (l0 : 0 ≤ l) (l1 : l < 4294967296) : 0 ≤ wTurn x l ∧ wTurn x l < 18446744073709551616 := by unfold wTurn; omega
theorem wrapU_bd (x : Int) : 0 ≤ IntKind.u64.wrap x ∧ IntKind.u64.wrap x < 18446744073709551616 := by rw [IntKind.wrap_u64]; omega
theorem wm_first {c : Cfg} (h : CfgOk c) : Wm c.first := fun x hx => by have := first_small h x hx; omega
theorem first_bd {c : Cfg} (h : CfgOk c) : c.first.length < 1000000000000 := by
  rw [first_len]; have := (cfg_bd h).al; have := (cfg_bd h).n0; omega

theorem mswap_len19 (l : List Int) (i o x : Int) : (mswap l i o x).length = l.length := by unfold mswap; split <;> simp [mput_length]
theorem hp_cases (P : Hp → Prop) (h0 : ∀ s k mk hh lk v tk tr ii nd e ek ea eb, P ⟨s, k, mk, hh, lk, v, tk, tr, ii, nd, e, ek, ea, eb, 0⟩) (h1 : ∀ s k mk hh lk v tk tr ii nd e ek ea eb, P ⟨s, k, mk, hh, lk, v, tk, tr, ii, nd, e, ek, ea, eb, 1⟩) (h2 : ∀ s k mk hh lk v tk tr ii nd e ek ea eb, P ⟨s, k, mk, hh, lk, v, tk, tr, ii, nd, e, ek, ea, eb, 2⟩) (h3 : ∀ s k mk hh lk v tk tr ii nd e ek ea eb, P ⟨s, k, mk, hh, lk, v, tk, tr, ii, nd, e, ek, ea, eb, 3⟩) (h4 : ∀ s k mk hh lk v tk tr ii nd e ek ea eb, P ⟨s, k, mk, hh, lk, v, tk, tr, ii, nd, e, ek, ea, eb, 4⟩) (h5 : ∀ s k mk hh lk v tk tr ii nd e ek ea eb, P ⟨s, k, mk, hh, lk, v, tk, tr, ii, nd, e, ek, ea, eb, 5⟩) (h6 : ∀ s k mk hh lk v tk tr ii nd e ek ea eb, P ⟨s, k, mk, hh, lk, v, tk, tr, ii, nd, e, ek, ea, eb, 6⟩) (h7 : ∀ s k mk hh lk v tk tr ii nd e ek ea eb p, P ⟨s, k, mk, hh, lk, v, tk, tr, ii, nd, e, ek, ea, eb, p + 7⟩) : ∀ m, P m := by
  rintro ⟨s, k, mk, hh, lk, v, tk, tr, ii, nd, e, ek, ea, eb, pc⟩
  match pc with
  | 0 => exact h0 ..
  | 1 => exact h1 ..
  | 2 => exact h2 ..
  | 3 => exact h3 ..
  | 4 => exact h4 ..
  | 5 => exact h5 ..
  | 6 => exact h6 ..
  | _ + 7 => exact h7 ..

theorem hpStep_len (c : Cfg) (l : List Int) : ∀ m, (hpStep c l m).1.length = l.length := by
  refine hp_cases _ ?_ ?_ ?_ ?_ ?_ ?_ ?_ ?_ <;> intros
  · rfl
  · rfl
  · rfl
  · exact mswap_len19 _ _ _ _
  · exact mput_length _ _ _
  · exact mput_length _ _ _
  · exact mput_length _ _ _
  · exact mput_length _ _ _
theorem hpStep_fix (c : Cfg) (l : List Int) : ∀ m, (hpStep c l m).2.slots = m.slots ∧ (hpStep c l m).2.cls = m.cls ∧ (hpStep c l m).2.mark = m.mark := by
  refine hp_cases _ ?_ ?_ ?_ ?_ ?_ ?_ ?_ ?_ <;> intros <;> exact ⟨rfl, rfl, rfl⟩

theorem hpStep_end (c : Cfg) (l : List Int) : ∀ m : Hp, m.pc = 0 → hpStep c l m = (l, { m with ek := 0, ea := 0, eb := 0 }) := by
  rintro ⟨s, k, mk, hh, lk, v, tk, tr, ii, nd, e, ek, ea, eb, pc⟩ h
  dsimp only at h
  subst h
  rfl
theorem wm_step {c : Cfg} {l : List Int} {m : Hp} (hm : HpOk m) (hk : 0 ≤ m.mark ∧ m.mark < 18446744073709551616) (h : Wm l) : Wm (hpStep c l m).1 := by
  revert hm hk
  refine hp_cases (fun m => HpOk m → (0 ≤ m.mark ∧ m.mark < 18446744073709551616) → Wm (hpStep c l m).1) ?_ ?_ ?_ ?_ ?_ ?_ ?_ ?_ m <;> intros
  · exact h
  · exact h
  · exact h
  · rename_i hm hk; exact wm_swap h _ _ _ (wTurn_bd _ _ hm.l0.1 hm.l0.2)
  · exact wm_put h _ _ (wrapU_bd _)
  · exact wm_put h _ _ (by decide)
  · rename_i hm hk; exact wm_put h _ _ hk
  · exact wm_put h _ _ (by decide)

/-- No two things have one place. -/
theorem at_ne {c : Cfg} (h : CfgOk c) {t s : Th} (ht : t ∈ c.things) (hs : s ∈ c.things) (hne : t ≠ s) : c.atOf t ≠ c.atOf s := by
  obtain ⟨p, hp⟩ := List.mem_iff_getElem?.1 ht
  obtain ⟨q, hq⟩ := List.mem_iff_getElem?.1 hs
  have e1 := things_at h t p hp
  have e2 := things_at h s q hq
  intro e
  have : p = q := by omega
  subst this
  rw [hp] at hq
  exact hne (Option.some.inj hq)
theorem at_in {c : Cfg} (h : CfgOk c) {t : Th} (ht : t ∈ c.things) : 0 ≤ c.atOf t ∧ c.atOf t < c.first.length := by
  obtain ⟨p, e, hp, -⟩ := first_at h t ht
  omega
theorem first_ld {c : Cfg} (h : CfgOk c) (t : Th) (ht : t ∈ c.things) : mld c.first (c.atOf t) = gFirst c t := by
  obtain ⟨p, e, hp, hg⟩ := first_at h t ht
  rw [mld_in (by omega), e]
  simp [List.getD, hg]
theorem head_first {c : Cfg} (h : CfgOk c) (k : Int) (k0 : 0 ≤ k) (k1 : k < 5) : mld c.first (c.headAt k) = lst c k 0 (c.nd - 1).toNat := by
  have := first_ld h ⟨7, k, 0⟩ (mem_head h k k0 k1)
  rw [atOf7] at this
  rw [this, gFirst_head]
theorem room_cls {c : Cfg} (v : Int) (h : 1 ≤ v ∧ v ≤ c.nd) : c.roomAt v = sSlots (c.clsAt v) := by
  have h1 := cells_class c.c0 c.c1 c.c2 c.c3 c.c4 v h.1 h.2
  have h2 := room_get v h
  unfold Cfg.rooms at h2
  rw [List.getElem?_map] at h2
  have ev : v.toNat - 1 = (v - 1).toNat := by omega
  have h3 : c.cls[v.toNat - 1]? = some (c.clsAt v) := by rw [ev]; exact h1
  rw [h3] at h2
  exact (Option.some.inj h2).symm
/-- The first free cell of a class. -/
theorem head_ok {c : Cfg} (h : CfgOk c) (k : Int) (k0 : 0 ≤ k) (k1 : k < 5) : mld c.first (c.headAt k) = 0 ∨ (1 ≤ mld c.first (c.headAt k) ∧ mld c.first (c.headAt k) < c.nd ∧ c.roomAt (mld c.first (c.headAt k)) = sSlots k) := by
  rw [head_first h k k0 k1]
  have hb := (cfg_bd h).nd
  rcases lst_ok c k 0 (c.nd - 1).toNat (by omega) with e | ⟨e1, e2, e3, e4⟩
  · exact .inl e
  · refine .inr ⟨by omega, e3, ?_⟩
    rw [room_cls _ ⟨by omega, by omega⟩, e4]
end Go.Proofs.Ytmiaghbakdapbaa
