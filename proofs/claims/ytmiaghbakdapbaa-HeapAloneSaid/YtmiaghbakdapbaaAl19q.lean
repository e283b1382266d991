/- Nodes that are made one at a time, in plain Lean: the list of a class's free cells. Condition: the configuration may be. -/
import Derived.Test.YtmiaghbakdapbaaAl19p
set_option linter.unusedVariables false
set_option linter.unusedSimpArgs false
set_option linter.unusedSectionVars false
namespace Go.Proofs.Ytmiaghbakdapbaa
open Go.ChangeShapes Go.WideShapes Go.ChangeAt Go.RowKit

/-- The free cells of a class behind the one that was taken last. -/
structure AI (c : Cfg) (k : Int) (l : List Int) (last : Int) : Prop where
  len : l.length = c.first.length
  wm : Wm l
  next : ∀ u, 1 ≤ u → u < c.nd → c.clsAt u = k → mld l (c.nodeAt u 3) = lst c k u (c.nd - 1).toNat
  head : mld l (c.headAt k) % 4294967296 = lst c k last (c.nd - 1).toNat
theorem lst_bd {c : Cfg} (h : CfgOk c) (k lo : Int) : lst c k lo (c.nd - 1).toNat = 0 ∨ (lo < lst c k lo (c.nd - 1).toNat ∧ 1 ≤ lst c k lo (c.nd - 1).toNat ∧ lst c k lo (c.nd - 1).toNat < c.nd ∧ c.clsAt (lst c k lo (c.nd - 1).toNat) = k) := by
  have hb := (cfg_bd h).nd
  rcases lst_ok c k lo (c.nd - 1).toNat (by omega) with e | ⟨e1, e2, e3, e4⟩
  · exact .inl e
  · exact .inr ⟨e1, by omega, e3, e4⟩
theorem lst_mod {c : Cfg} (h : CfgOk c) (k lo : Int) : lst c k lo (c.nd - 1).toNat % 4294967296 = lst c k lo (c.nd - 1).toNat := by
  have hb := (cfg_bd h).nd
  rcases lst_bd h k lo with e | ⟨-, e2, e3, -⟩
  · rw [e]; rfl
  · omega
theorem ai_first {c : Cfg} (h : CfgOk c) (k : Int) (k0 : 0 ≤ k) (k1 : k < 5) : AI c k c.first 0 := by
  refine ⟨rfl, wm_first h, fun u u1 u2 hc => ?_, by rw [head_first h k k0 k1, lst_mod h]⟩
  have := first_ld h ⟨17, u, 0⟩ (mem_node h 17 u (by decide) (by decide) u1 (by omega))
  rw [gFirst_next u u1 u2, hc] at this
  rw [← this, show (17 : Int) = 14 + 3 from rfl, atN u 3 (by decide) (by decide)]
theorem ai_slot {c : Cfg} (h : CfgOk c) {k : Int} (k0 : 0 ≤ k) (k1 : k < 5) {l : List Int} {last : Int} (I : AI c k l last) (v i x : Int) (hx : 0 ≤ x ∧ x < 18446744073709551616) : AI c k (mput l (c.slotAt v i) x) last :=
  ⟨by rw [mput_length]; exact I.len, wm_put I.wm _ _ hx, fun u u1 u2 hc => by rw [mld_mput_ne _ _ _ _ (ne_sn h _ _ _ _ u1 (by omega) (by decide) (by decide))]; exact I.next u u1 u2 hc, by rw [mld_mput_ne _ _ _ _ (ne_sh h _ _ _ k0 k1)]; exact I.head⟩
theorem ai_state {c : Cfg} (h : CfgOk c) {k : Int} (k0 : 0 ≤ k) (k1 : k < 5) {l : List Int} {last : Int} (I : AI c k l last) (v x : Int) (hx : 0 ≤ x ∧ x < 18446744073709551616) : AI c k (mput l (c.nodeAt v 1) x) last :=
  ⟨by rw [mput_length]; exact I.len, wm_put I.wm _ _ hx, fun u u1 u2 hc => by rw [mld_mput_ne _ _ _ _ (ne_nn h _ _ _ _ (by decide) (by decide) u1 (by omega) (by decide) (by decide) (.inr (by decide)))]; exact I.next u u1 u2 hc, by rw [mld_mput_ne _ _ _ _ (ne_hn h _ _ _ k0 k1 (by decide) (by decide))]; exact I.head⟩
theorem wTurn_low (x l : Int) (h0 : 0 ≤ l) (h1 : l < 4294967296) : wTurn x l % 4294967296 = l := by unfold wTurn; omega
theorem ai_alloc {c : Cfg} (h : CfgOk c) {n mk : Int} (k0 : 0 ≤ sOf n) {l : List Int} {last v : Int} (I : AI c (sOf n) l last) (m0 : 0 ≤ mk ∧ mk < 18446744073709551616) (hv : lst c (sOf n) last (c.nd - 1).toNat = v) (hz : v ≠ 0) :
    AI c (sOf n) (aMem c l n mk v) v ∧ last < v ∧ 1 ≤ v ∧ v < c.nd ∧ c.clsAt v = sOf n ∧ mld l (c.headAt (sOf n)) % 4294967296 = v := by
  have k1 := sOf_five n
  have hb := lst_bd h (sOf n) last
  rw [hv] at hb
  obtain ⟨b1, b2, b3, b4⟩ := hb.resolve_left hz
  refine ⟨⟨by rw [aMem_len]; exact I.len, wm_aMem h I.len k0 b2 (by omega) I.wm m0, fun u u1 u2 hc => ?_, ?_⟩, b1, b2, b3, b4, by rw [I.head, hv]⟩
  · rw [aMem_next h I.len k0 b2 (by omega) u u1 (by omega)]; exact I.next u u1 u2 hc
  · rw [aMem_head h I.len k0 b2 (by omega), I.next v b2 b3 b4, lst_mod h, wTurn_low _ _ (by rcases lst_bd h (sOf n) v with e | e <;> omega) (by have := (cfg_bd h).nd; rcases lst_bd h (sOf n) v with e | e <;> omega)]

/-- One node more, of a class or not. -/
theorem cntA_lo (c : Cfg) (q v : Int) : ∀ k : Nat, cntA c q (v - 1) k = (if c.nd - k ≤ v ∧ v < c.nd ∧ c.clsAt v = q then 1 else 0) + cntA c q v k
  | 0 => by
    simp only [cntA]
    rw [if_neg (by omega)]; rfl
  | k + 1 => by
    have ih := cntA_lo c q v k
    simp only [cntA]
    rw [ih]
    by_cases e : c.nd - ((k + 1 : Nat) : Int) = v
    · rw [e]
      (repeat' split) <;> omega
    · (repeat' split) <;> omega
/-- How many cells of a class are free at first. -/
def Cfg.free (c : Cfg) (k : Int) : Int := cntA c k 0 (c.nd - 1).toNat
theorem free_bd {c : Cfg} (h : CfgOk c) (k : Int) : 0 ≤ c.free k ∧ c.free k ≤ 60 := by
  have := cntA_bd c k 0 (c.nd - 1).toNat
  have hb := (cfg_bd h).nd
  unfold Cfg.free
  omega
/-- What was counted below v, and what is left. -/
theorem free_step {c : Cfg} (h : CfgOk c) (k v N : Int) (h1 : 1 ≤ v) (h2 : v < c.nd) (hN : N + cntA c k (v - 1) (c.nd - 1).toNat = c.free k) : (if c.clsAt v = k then N + 1 else N) + cntA c k v (c.nd - 1).toNat = c.free k := by
  rw [cntA_lo] at hN
  by_cases g : c.clsAt v = k
  · rw [if_pos ⟨by omega, h2, g⟩] at hN; rw [if_pos g]; omega
  · rw [if_neg (fun r => g r.2.2)] at hN; rw [if_neg g]; omega
theorem cntA_top (c : Cfg) (q : Int) : ∀ k : Nat, cntA c q (c.nd - 1) k = 0
  | 0 => rfl
  | k + 1 => by simp only [cntA]; rw [cntA_top c q k, if_neg (by omega)]; rfl
/-- What is left of a class's list, and its first cell. -/
theorem left_zero {c : Cfg} (h : CfgOk c) (k last : Int) : (cntA c k last (c.nd - 1).toNat = 0 → lst c k last (c.nd - 1).toNat = 0) ∧ (cntA c k last (c.nd - 1).toNat ≠ 0 → lst c k last (c.nd - 1).toNat ≠ 0 ∧ cntA c k last (c.nd - 1).toNat = 1 + cntA c k (lst c k last (c.nd - 1).toNat) (c.nd - 1).toNat) := by
  have hb := (cfg_bd h).nd
  obtain ⟨s1, s2⟩ := cntA_step c k last (c.nd - 1).toNat (by omega)
  refine ⟨fun q => ?_, fun q => ?_⟩
  · by_cases e : lst c k last (c.nd - 1).toNat = 0
    · exact e
    · have := s2 e
      have := (cntA_bd c k (lst c k last (c.nd - 1).toNat) (c.nd - 1).toNat).1
      omega
  · have e : lst c k last (c.nd - 1).toNat ≠ 0 := fun r => q (s1 r)
    exact ⟨e, s2 e⟩
end Go.Proofs.Ytmiaghbakdapbaa
