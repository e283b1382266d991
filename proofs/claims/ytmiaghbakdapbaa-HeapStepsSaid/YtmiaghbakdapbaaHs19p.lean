/- Two machines that make a node, step by step alike, in plain Lean. No condition. -/
import Derived.Test.YtmiaghbakdapbaaHp19m
set_option linter.unusedVariables false
set_option linter.unusedSimpArgs false
namespace Go.Proofs.Ytmiaghbakdapbaa
open Go.ChangeShapes Go.WideShapes Go.ChangeAt Go.RowKit

/-- What is told of two machines is the same. -/
structure R19 (m m' : Hp) : Prop where
  pc : m.pc = m'.pc
  node : m.node = m'.node
  e : m.e = m'.e
  cell : hpCell m = hpCell m'
  ek : m.ek = m'.ek
  ea : m.ea = m'.ea
  eb : m.eb = m'.eb
  all : m.pc ≠ 0 → m = m'
theorem R19.refl (m : Hp) : R19 m m := ⟨rfl, rfl, rfl, rfl, rfl, rfl, rfl, fun _ => rfl⟩
theorem r19_step {m m' : Hp} (h : R19 m m') (c : Cfg) (l : List Int) : R19 (hpStep c l m).2 (hpStep c l m').2 ∧ (hpStep c l m').1 = (hpStep c l m).1 := by
  by_cases hp : m.pc = 0
  · have hp' : m'.pc = 0 := by rw [← h.pc]; exact hp
    rw [hpStep_end c l m hp, hpStep_end c l m' hp']
    refine ⟨⟨h.pc, h.node, h.e, ?_, rfl, rfl, rfl, fun q => absurd hp q⟩, rfl⟩
    have := h.cell
    unfold hpCell at this ⊢
    exact this
  · have := h.all hp
    subst this
    exact ⟨R19.refl _, rfl⟩
/-- The machine of the document at its begin. -/
def newR (sl mk : Int) : Hp := if sOf sl < 0 then ⟨0, 0, 0, 0, 0, 0, false, 0, 0, 0, 21, 0, 0, 0, 0⟩ else hpNew sl mk
theorem hpOk_newR (sl mk : Int) : HpOk (newR sl mk) := by
  unfold newR; split
  · exact ⟨.inl rfl, by show (0 : Int) ≤ 0 ∧ (0 : Int) < 18446744073709551616; decide, by show (0 : Int) ≤ 0 ∧ (0 : Int) < 4294967296; decide, by show 0 ≤ 7; decide⟩
  · exact hpOk_new _ _
theorem r19_new (sl mk : Int) : R19 (hpNew sl mk) (newR sl mk) := by
  unfold newR
  split
  · rename_i h
    have hn : ¬ 0 ≤ sOf sl := by omega
    have e1 : (hpNew sl mk).pc = 0 := by show hpPc (decide (0 ≤ sOf sl)) 1 0 = 0; rw [decide_eq_false hn]; rfl
    have e2 : (hpNew sl mk).e = 21 := by show hpE (decide (0 ≤ sOf sl)) 0 21 = 21; rw [decide_eq_false hn]; rfl
    exact ⟨e1, rfl, e2, rfl, rfl, rfl, rfl, fun q => absurd e1 q⟩
  · exact R19.refl _
/-- No cell is taken ahead of the swap. -/
def Tk (m : Hp) : Prop := m.pc ≤ 3 → m.took = false
theorem tk_new (sl mk : Int) : Tk (newR sl mk) := by
  intro _; unfold newR; split <;> rfl
theorem hpRest_ge (c : Cfg) (v i : Int) : 4 ≤ hpRest c v i := by unfold hpRest; cases decide (i < c.roomAt v) <;> decide
theorem tk_step {m : Hp} (h : Tk m) (c : Cfg) (l : List Int) : Tk (hpStep c l m).2 := by
  revert h
  refine hp_cases (fun m => Tk m → Tk (hpStep c l m).2) ?_ ?_ ?_ ?_ ?_ ?_ ?_ ?_ m <;> intros
  · rename_i h; exact fun _ => h (Nat.zero_le _)
  · rename_i h; exact fun _ => h (by show 1 ≤ 3; decide)
  · rename_i h; exact fun _ => h (by show 2 ≤ 3; decide)
  · rename_i s k mk hh lk v tk tr ii nd e ek ea eb h
    intro hq
    show mswapped l (c.headAt k) hh = false
    have hq' : hpPc (mswapped l (c.headAt k) hh) 4 (hpPc (tr == 4) 0 1) ≤ 3 := hq
    cases hb : mswapped l (c.headAt k) hh with
    | false => rfl
    | true => rw [hb] at hq'; exact absurd hq' (by show ¬ 4 ≤ 3; decide)
  · rename_i s k mk hh lk v tk tr ii nd e ek ea eb h
    intro hq
    have hq' : hpRest c v ii ≤ 3 := hq
    have := hpRest_ge c v ii
    omega
  · rename_i s k mk hh lk v tk tr ii nd e ek ea eb h
    intro hq
    have hq' : hpRest c v (wrap64 (ii + 1)) ≤ 3 := hq
    have := hpRest_ge c v (wrap64 (ii + 1))
    omega
  · intro hq; exact absurd hq (by show ¬ 7 ≤ 3; decide)
  · intro _; rfl

/-- What holds of both, and of the words. -/
structure SI (l : List Int) (m m' : Hp) : Prop where
  len : l.length < 1000000000000
  wm : Wm l
  ok : HpOk m
  ok' : HpOk m'
  hmk : 0 ≤ m.mark ∧ m.mark < 18446744073709551616
  r : R19 m m'
  tk : Tk m'
theorem si_step {l : List Int} {m m' : Hp} (c : Cfg) (h : SI l m m') : SI (hpStep c l m).1 (hpStep c l m).2 (hpStep c l m').2 :=
  ⟨by rw [hpStep_len]; exact h.len, wm_step h.ok h.hmk h.wm, hpOk_step h.ok (wm_mld h.wm), hpOk_step h.ok' (wm_mld h.wm), by rw [(hpStep_fix c l m).2.2]; exact h.hmk, (r19_step h.r c l).1, tk_step h.tk c l⟩
theorem si_put {l : List Int} {m m' : Hp} (h : SI l m m') (a x : Int) (hx : 0 ≤ x ∧ x < 18446744073709551616) : SI (mput l a x) m m' := ⟨by rw [mput_length]; exact h.len, wm_put h.wm _ _ hx, h.ok, h.ok', h.hmk, h.r, h.tk⟩
theorem hpCount_eq (m : Hp) (n : Int) : (hpCount m n == IntKind.i64.wrap (n + 1)) = decide (0 < m.pc) := by
  have e0 : IntKind.i64.wrap (n + 1) = wrap64 (n + 1) := by simp [IntKind.wrap, IntKind.bits, IntKind.signed, wrap64]; try omega
  have hne : (n == wrap64 (n + 1)) = false := by simp; unfold wrap64; omega
  rw [e0]
  unfold hpCount
  match hm : m.pc with
  | 0 => simp only [beq_self_eq_true, cond_true]; rw [hne]; rfl
  | k + 1 =>
    have : (k + 1 == 0) = false := by simp
    rw [this]; simp only [cond_false, beq_self_eq_true]
    symm; simp
end Go.Proofs.Ytmiaghbakdapbaa
