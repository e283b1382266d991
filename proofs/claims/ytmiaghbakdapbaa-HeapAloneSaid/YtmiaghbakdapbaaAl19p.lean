/- A machine that makes a node, alone, in plain Lean: it takes the first cell of its class's list. Condition: the configuration may be. -/
import Derived.Test.YtmiaghbakdapbaaHp19bp
set_option linter.unusedVariables false
set_option linter.unusedSimpArgs false
set_option linter.unusedSectionVars false
namespace Go.Proofs.Ytmiaghbakdapbaa
open Go.ChangeShapes Go.WideShapes Go.ChangeAt Go.RowKit

/-- No two things have one place, one of them at a place. -/
theorem at_ne2 {c : Cfg} (h : CfgOk c) {t s : Th} (ht : Norm t) (hs : Norm s) (hne : t ≠ s) (h0 : 0 ≤ c.atOf s) : c.atOf t ≠ c.atOf s := by
  by_cases hp : 0 ≤ c.atOf t
  · exact at_ne h (mem_of h t ht hp) (mem_of h s hs h0) hne
  · omega
theorem norm_head (k : Int) : Norm ⟨7, k, 0⟩ := ⟨by dsimp only; omega, by dsimp only; omega, by dsimp only; omega⟩
theorem norm_node (v : Int) (j : Int) (j0 : 0 ≤ j) (j1 : j ≤ 3) : Norm ⟨14 + j, v, 0⟩ := ⟨by dsimp only; omega, by dsimp only; omega, fun _ => rfl⟩
theorem norm_slot (v i : Int) : Norm ⟨18, v, i⟩ := ⟨by dsimp only; omega, by dsimp only; omega, by dsimp only; omega⟩
theorem atN {c : Cfg} (v j : Int) (j0 : 0 ≤ j) (j1 : j ≤ 3) : c.atOf ⟨14 + j, v, 0⟩ = c.nodeAt v j := by
  rw [atOfN _ _ _ (by omega) (by omega)]; congr 1; omega
theorem hd_in {c : Cfg} (h : CfgOk c) (k : Int) (k0 : 0 ≤ k) (k1 : k < 5) : 0 ≤ c.headAt k ∧ c.headAt k < c.first.length := by
  have := at_in h (mem_head h k k0 k1)
  rw [atOf7] at this
  exact this
theorem nd_in {c : Cfg} (h : CfgOk c) (v j : Int) (h1 : 1 ≤ v) (h2 : v ≤ c.nd) (j0 : 0 ≤ j) (j1 : j ≤ 3) : 0 ≤ c.nodeAt v j ∧ c.nodeAt v j < c.first.length := by
  have := at_in h (mem_node h (14 + j) v (by omega) (by omega) h1 h2)
  rw [atN v j j0 j1] at this
  exact this
theorem ne_hn {c : Cfg} (h : CfgOk c) (k v j : Int) (k0 : 0 ≤ k) (k1 : k < 5) (j0 : 0 ≤ j) (j1 : j ≤ 3) : c.nodeAt v j ≠ c.headAt k := by
  have := at_ne2 h (norm_node v j j0 j1) (norm_head k) (by intro q; injection q; omega) (by rw [atOf7]; exact (hd_in h k k0 k1).1)
  rw [atN v j j0 j1, atOf7] at this
  exact this
theorem ne_sh {c : Cfg} (h : CfgOk c) (k v i : Int) (k0 : 0 ≤ k) (k1 : k < 5) : c.slotAt v i ≠ c.headAt k := by
  have := at_ne2 h (norm_slot v i) (norm_head k) (by intro q; injection q; omega) (by rw [atOf7]; exact (hd_in h k k0 k1).1)
  rw [atOf18, atOf7] at this
  exact this
theorem ne_sn {c : Cfg} (h : CfgOk c) (v i u j : Int) (h1 : 1 ≤ u) (h2 : u ≤ c.nd) (j0 : 0 ≤ j) (j1 : j ≤ 3) : c.slotAt v i ≠ c.nodeAt u j := by
  have := at_ne2 h (norm_slot v i) (norm_node u j j0 j1) (by intro q; injection q; omega) (by rw [atN u j j0 j1]; exact (nd_in h u j h1 h2 j0 j1).1)
  rw [atOf18, atN u j j0 j1] at this
  exact this
theorem ne_nn {c : Cfg} (h : CfgOk c) (v i u j : Int) (i0 : 0 ≤ i) (i1 : i ≤ 3) (h1 : 1 ≤ u) (h2 : u ≤ c.nd) (j0 : 0 ≤ j) (j1 : j ≤ 3) (hne : v ≠ u ∨ i ≠ j) : c.nodeAt v i ≠ c.nodeAt u j := by
  have := at_ne2 h (norm_node v i i0 i1) (norm_node u j j0 j1) (by intro q; injection q; omega) (by rw [atN u j j0 j1]; exact (nd_in h u j h1 h2 j0 j1).1)
  rw [atN v i i0 i1, atN u j j0 j1] at this
  exact this
theorem ne_hh {c : Cfg} (h : CfgOk c) (k q : Int) (q0 : 0 ≤ q) (q1 : q < 5) (hne : k ≠ q) : c.headAt k ≠ c.headAt q := by
  have := at_ne2 h (norm_head k) (norm_head q) (by intro r; injection r; omega) (by rw [atOf7]; exact (hd_in h q q0 q1).1)
  rw [atOf7, atOf7] at this
  exact this
theorem ne_hn2 {c : Cfg} (h : CfgOk c) (k v j : Int) (h1 : 1 ≤ v) (h2 : v ≤ c.nd) (j0 : 0 ≤ j) (j1 : j ≤ 3) : c.headAt k ≠ c.nodeAt v j := by
  have := at_ne2 h (norm_head k) (norm_node v j j0 j1) (by intro q; injection q; omega) (by rw [atN v j j0 j1]; exact (nd_in h v j h1 h2 j0 j1).1)
  rw [atN v j j0 j1, atOf7] at this
  exact this
theorem slot_0 {c : Cfg} (h : CfgOk c) (v i : Int) (i0 : 0 ≤ i) (i1 : i < c.roomAt v) : 0 ≤ c.slotAt v i := by
  have hv : 1 ≤ v ∧ v ≤ c.nd := by
    by_cases q : 1 ≤ v ∧ v ≤ c.nd
    · exact q
    · rw [roomAt_no v q] at i1; omega
  unfold Cfg.slotAt
  rw [if_pos ⟨i0, i1⟩, nodeAt_j _ _ hv]
  have := nodeAt_bd h v hv
  have hb := cfg_bd h
  have := hb.n0; have := hb.pk; have := hb.dqP; have := h.mu
  omega
theorem slot_in {c : Cfg} (h : CfgOk c) (v i : Int) (i0 : 0 ≤ i) (i1 : i < c.roomAt v) : 0 ≤ c.slotAt v i ∧ c.slotAt v i < c.first.length := by
  have := at_in h (mem_of h ⟨18, v, i⟩ (norm_slot v i) (by rw [atOf18]; exact slot_0 h v i i0 i1))
  rw [atOf18] at this
  exact this
theorem ne_ns {c : Cfg} (h : CfgOk c) (u j v i : Int) (j0 : 0 ≤ j) (j1 : j ≤ 3) (i0 : 0 ≤ i) (i1 : i < c.roomAt v) : c.nodeAt u j ≠ c.slotAt v i := by
  have := at_ne2 h (norm_node u j j0 j1) (norm_slot v i) (by intro q; injection q; omega) (by rw [atOf18]; exact slot_0 h v i i0 i1)
  rw [atN u j j0 j1, atOf18] at this
  exact this
theorem ne_ss {c : Cfg} (h : CfgOk c) (u j v i : Int) (i0 : 0 ≤ i) (i1 : i < c.roomAt v) (hne : u ≠ v ∨ j ≠ i) : c.slotAt u j ≠ c.slotAt v i := by
  have := at_ne2 h (norm_slot u j) (norm_slot v i) (by intro q; injection q; omega) (by rw [atOf18]; exact slot_0 h v i i0 i1)
  rw [atOf18, atOf18] at this
  exact this
theorem ne_hs {c : Cfg} (h : CfgOk c) (k v i : Int) (i0 : 0 ≤ i) (i1 : i < c.roomAt v) : c.headAt k ≠ c.slotAt v i := by
  have := at_ne2 h (norm_head k) (norm_slot v i) (by intro q; injection q; omega) (by rw [atOf18]; exact slot_0 h v i i0 i1)
  rw [atOf7, atOf18] at this
  exact this

/-- So many steps of a machine alone. -/
def hpIter (c : Cfg) : Nat → List Int × Hp → List Int × Hp
  | 0, p => p
  | n + 1, p => hpStep c (hpIter c n p).1 (hpIter c n p).2
theorem hpIter_add (c : Cfg) (a : Nat) (p : List Int × Hp) : ∀ b, hpIter c (a + b) p = hpIter c b (hpIter c a p)
  | 0 => rfl
  | b + 1 => by
    show hpStep c (hpIter c (a + b) p).1 (hpIter c (a + b) p).2 = hpStep c (hpIter c b (hpIter c a p)).1 (hpIter c b (hpIter c a p)).2
    rw [hpIter_add c a p b]

/-- A node's slots, emptied one by one. -/
def zsl (c : Cfg) (l : List Int) (v : Int) : Nat → List Int
  | 0 => l
  | i + 1 => mput (zsl c l v i) (c.slotAt v i) 0
theorem zsl_len (c : Cfg) (l : List Int) (v : Int) : ∀ i, (zsl c l v i).length = l.length
  | 0 => rfl
  | i + 1 => by simp only [zsl]; rw [mput_length, zsl_len c l v i]
theorem zsl_ne {c : Cfg} (l : List Int) (v a : Int) (ha : ∀ i, c.slotAt v i ≠ a) : ∀ i, mld (zsl c l v i) a = mld l a
  | 0 => rfl
  | i + 1 => by simp only [zsl]; rw [mld_mput_ne _ _ _ _ (ha i), zsl_ne l v a ha i]
theorem zsl_at {c : Cfg} (h : CfgOk c) (l : List Int) (hl : l.length = c.first.length) (v : Int) : ∀ (n : Nat), (n : Int) ≤ c.roomAt v → ∀ i : Int, 0 ≤ i → i < n → mld (zsl c l v n) (c.slotAt v i) = 0
  | 0, _, i, i0, i1 => by omega
  | n + 1, hn, i, i0, i1 => by
    simp only [zsl]
    by_cases e : i = n
    · subst e
      have := slot_in h v n (by omega) (by omega)
      rw [mld_mput_same (by rw [zsl_len, hl]; exact this)]
    · rw [mld_mput_ne _ _ _ _ (ne_ss h v n v i i0 (by omega) (.inr (by omega)))]
      exact zsl_at h l hl v n (by omega) i i0 (by omega)

theorem wm_zsl {c : Cfg} {l : List Int} (hw : Wm l) (v : Int) : ∀ i, Wm (zsl c l v i)
  | 0 => hw
  | i + 1 => wm_put (wm_zsl hw v i) _ _ (by decide)
theorem w01 : wrap64 (0 + 1) = 1 := wrap64_id19 _ (by decide) (by decide)
/-- Memory behind a node that was made of the cell v. -/
def aMem (c : Cfg) (l : List Int) (n mk v : Int) : List Int :=
  mput (mput (zsl c (mput (mput l (c.headAt (sOf n)) (wTurn (mld l (c.headAt (sOf n))) (mld l (c.nodeAt v 3) % 4294967296))) (c.nodeAt v 0) (IntKind.u64.wrap n)) v (c.roomAt v).toNat) (c.nodeAt v 2) mk) (c.nodeAt v 1) 1
theorem aMem_len (c : Cfg) (l : List Int) (n mk v : Int) : (aMem c l n mk v).length = l.length := by
  unfold aMem; rw [mput_length, mput_length, zsl_len, mput_length, mput_length]

section
variable {c : Cfg} (h : CfgOk c) {l : List Int} (hl : l.length = c.first.length) {n mk v : Int} (hk : 0 ≤ sOf n) (h1 : 1 ≤ v) (h2 : v ≤ c.nd)
include h hl hk h1 h2
theorem aMem_head : mld (aMem c l n mk v) (c.headAt (sOf n)) = wTurn (mld l (c.headAt (sOf n))) (mld l (c.nodeAt v 3) % 4294967296) := by
  have k5 := sOf_five n
  unfold aMem
  rw [mld_mput_ne _ _ _ _ (ne_hn h _ _ _ hk k5 (by decide) (by decide)), mld_mput_ne _ _ _ _ (ne_hn h _ _ _ hk k5 (by decide) (by decide)), zsl_ne _ _ _ (fun i => ne_sh h _ _ _ hk k5), mld_mput_ne _ _ _ _ (ne_hn h _ _ _ hk k5 (by decide) (by decide)), mld_mput_same (by rw [hl]; exact hd_in h _ hk k5)]
theorem aMem_next (u : Int) (u1 : 1 ≤ u) (u2 : u ≤ c.nd) : mld (aMem c l n mk v) (c.nodeAt u 3) = mld l (c.nodeAt u 3) := by
  unfold aMem
  rw [mld_mput_ne _ _ _ _ (ne_nn h _ _ _ _ (by decide) (by decide) u1 u2 (by decide) (by decide) (.inr (by decide))), mld_mput_ne _ _ _ _ (ne_nn h _ _ _ _ (by decide) (by decide) u1 u2 (by decide) (by decide) (.inr (by decide))), zsl_ne _ _ _ (fun i => ne_sn h _ _ _ _ u1 u2 (by decide) (by decide)), mld_mput_ne _ _ _ _ (ne_nn h _ _ _ _ (by decide) (by decide) u1 u2 (by decide) (by decide) (.inr (by decide))), mld_mput_ne _ _ _ _ (ne_hn2 h _ _ _ u1 u2 (by decide) (by decide))]
theorem aMem_state : mld (aMem c l n mk v) (c.nodeAt v 1) = 1 := by
  unfold aMem
  rw [mld_mput_same (by rw [mput_length, zsl_len, mput_length, mput_length, hl]; exact nd_in h v 1 h1 h2 (by decide) (by decide))]
theorem aMem_mark : mld (aMem c l n mk v) (c.nodeAt v 2) = mk := by
  unfold aMem
  rw [mld_mput_ne _ _ _ _ (ne_nn h _ _ _ _ (by decide) (by decide) h1 h2 (by decide) (by decide) (.inr (by decide))), mld_mput_same (by rw [zsl_len, mput_length, mput_length, hl]; exact nd_in h v 2 h1 h2 (by decide) (by decide))]
theorem aMem_header : mld (aMem c l n mk v) (c.nodeAt v 0) = IntKind.u64.wrap n := by
  unfold aMem
  rw [mld_mput_ne _ _ _ _ (ne_nn h _ _ _ _ (by decide) (by decide) h1 h2 (by decide) (by decide) (.inr (by decide))), mld_mput_ne _ _ _ _ (ne_nn h _ _ _ _ (by decide) (by decide) h1 h2 (by decide) (by decide) (.inr (by decide))), zsl_ne _ _ _ (fun i => ne_sn h _ _ _ _ h1 h2 (by decide) (by decide)), mld_mput_same (by rw [mput_length, hl]; exact nd_in h v 0 h1 h2 (by decide) (by decide))]
theorem aMem_slot (i : Int) (i0 : 0 ≤ i) (i1 : i < c.roomAt v) : mld (aMem c l n mk v) (c.slotAt v i) = 0 := by
  unfold aMem
  rw [mld_mput_ne _ _ _ _ (ne_ns h _ _ _ _ (by decide) (by decide) i0 i1), mld_mput_ne _ _ _ _ (ne_ns h _ _ _ _ (by decide) (by decide) i0 i1)]
  exact zsl_at h _ (by rw [mput_length, mput_length, hl]) v _ (by have := (roomAt_pos v ⟨h1, h2⟩).1; omega) i i0 (by omega)
theorem wm_aMem (hw : Wm l) (m0 : 0 ≤ mk ∧ mk < 18446744073709551616) : Wm (aMem c l n mk v) := by
  unfold aMem
  exact wm_put (wm_put (wm_zsl (wm_put (wm_put hw _ _ (wTurn_bd _ _ (by omega) (by omega))) _ _ (wrapU_bd _)) _ _) _ _ m0) _ _ (by decide)

theorem alone_iter (hv : mld l (c.headAt (sOf n)) % 4294967296 = v) : hpIter c 32 (l, hpNew n mk) = (aMem c l n mk v, ⟨n, sOf n, mk, mld l (c.headAt (sOf n)), mld l (c.nodeAt v 3) % 4294967296, v, false, 1, c.roomAt v, v, 0, 0, 0, 0, 0⟩) := by
  have k5 := sOf_five n
  obtain ⟨H, hH⟩ : ∃ H, H = mld l (c.headAt (sOf n)) := ⟨_, rfl⟩
  obtain ⟨X, hX⟩ : ∃ X, X = mld l (c.nodeAt v 3) % 4294967296 := ⟨_, rfl⟩
  obtain ⟨S, hS⟩ : ∃ S : Nat, (S : Int) = c.roomAt v := ⟨(c.roomAt v).toNat, by have := (roomAt_pos v ⟨h1, h2⟩).1; omega⟩
  have hrm := roomAt_pos v ⟨h1, h2⟩
  have e0 : hpNew n mk = ⟨n, sOf n, mk, 0, 0, 0, false, 0, 0, 0, 0, 0, 0, 0, 1⟩ := by unfold hpNew; rw [decide_eq_true hk]; rfl
  have vz : (v == 0) = false := by simp; omega
  have s1 : hpIter c 1 (l, hpNew n mk) = (l, ⟨n, sOf n, mk, H, 0, v, false, 1, 0, 0, 0, 0, 0, 0, 2⟩) := by
    show hpStep c l (hpNew n mk) = _
    rw [e0]
    show (l, Hp.mk n (sOf n) mk (mld l (c.headAt (sOf n))) 0 (mld l (c.headAt (sOf n)) % 4294967296) false (wrap64 (0 + 1)) 0 0 (hpE (mld l (c.headAt (sOf n)) % 4294967296 == 0) 22 0) 0 0 0 (hpPc (mld l (c.headAt (sOf n)) % 4294967296 == 0) 0 2)) = _
    rw [hv, vz, ← hH, w01]; rfl
  have s2 : hpIter c 2 (l, hpNew n mk) = (l, ⟨n, sOf n, mk, H, X, v, false, 1, 0, 0, 0, 0, 0, 0, 3⟩) := by
    show hpStep c (hpIter c 1 (l, hpNew n mk)).1 (hpIter c 1 (l, hpNew n mk)).2 = _
    rw [s1]
    show (l, Hp.mk n (sOf n) mk H (mld l (c.nodeAt v 3) % 4294967296) v false 1 0 0 0 0 0 0 3) = _
    rw [← hX]
  obtain ⟨l1, hl1⟩ : ∃ l1, l1 = mput l (c.headAt (sOf n)) (wTurn H X) := ⟨_, rfl⟩
  have s3 : hpIter c 3 (l, hpNew n mk) = (l1, ⟨n, sOf n, mk, H, X, v, true, 1, 0, 0, 0, 0, 0, 0, 4⟩) := by
    show hpStep c (hpIter c 2 (l, hpNew n mk)).1 (hpIter c 2 (l, hpNew n mk)).2 = _
    rw [s2]
    have hm : mswapped l (c.headAt (sOf n)) H = true ∧ mswap l (c.headAt (sOf n)) H (wTurn H X) = l1 := by
      rw [hH, hl1, hH]; exact mswap_yes' (by rw [hl]; exact hd_in h _ hk k5) _
    show (mswap l (c.headAt (sOf n)) H (wTurn H X), Hp.mk n (sOf n) mk H X v (mswapped l (c.headAt (sOf n)) H) 1 0 0 (hpE (mswapped l (c.headAt (sOf n)) H) 0 (hpE ((1 : Int) == 4) 23 0)) 0 0 0 (hpPc (mswapped l (c.headAt (sOf n)) H) 4 (hpPc ((1 : Int) == 4) 0 1))) = _
    rw [hm.1, hm.2]; rfl
  obtain ⟨l2, hl2⟩ : ∃ l2, l2 = mput l1 (c.nodeAt v 0) (IntKind.u64.wrap n) := ⟨_, rfl⟩
  have s4 : ∀ i : Nat, (i : Int) ≤ c.roomAt v → hpIter c (4 + i) (l, hpNew n mk) = (zsl c l2 v i, ⟨n, sOf n, mk, H, X, v, true, 1, i, 0, 0, 0, 0, 0, hpRest c v i⟩) := by
    intro i
    induction i with
    | zero =>
      intro _
      show hpStep c (hpIter c 3 (l, hpNew n mk)).1 (hpIter c 3 (l, hpNew n mk)).2 = _
      rw [s3]
      show (mput l1 (c.nodeAt v 0) (IntKind.u64.wrap n), Hp.mk n (sOf n) mk H X v true 1 0 0 0 0 0 0 (hpRest c v 0)) = _
      rw [← hl2]; rfl
    | succ i ih =>
      intro hi
      show hpStep c (hpIter c (4 + i) (l, hpNew n mk)).1 (hpIter c (4 + i) (l, hpNew n mk)).2 = _
      rw [ih (by omega), hpRest_5 (show (i : Int) < c.roomAt v by omega)]
      show (mput (zsl c l2 v i) (c.slotAt v i) 0, Hp.mk n (sOf n) mk H X v true 1 (wrap64 ((i : Int) + 1)) 0 0 0 0 0 (hpRest c v (wrap64 ((i : Int) + 1)))) = _
      rw [wrap64_id19 _ (by omega) (by omega)]
      have ec : ((i : Int) + 1) = ((i + 1 : Nat) : Int) := by omega
      rw [ec]; rfl
  have s5 := s4 S (by omega)
  rw [hpRest_6 (show ¬ (S : Int) < c.roomAt v by omega)] at s5
  have s6 : hpIter c (5 + S) (l, hpNew n mk) = (mput (zsl c l2 v S) (c.nodeAt v 2) mk, ⟨n, sOf n, mk, H, X, v, true, 1, S, 0, 0, 0, 0, 0, 7⟩) := by
    rw [show 5 + S = (4 + S) + 1 by omega]
    show hpStep c (hpIter c (4 + S) (l, hpNew n mk)).1 (hpIter c (4 + S) (l, hpNew n mk)).2 = _
    rw [s5]; rfl
  have s7 : hpIter c (6 + S) (l, hpNew n mk) = (mput (mput (zsl c l2 v S) (c.nodeAt v 2) mk) (c.nodeAt v 1) 1, ⟨n, sOf n, mk, H, X, v, false, 1, S, v, 0, 8, v, n, 0⟩) := by
    rw [show 6 + S = (5 + S) + 1 by omega]
    show hpStep c (hpIter c (5 + S) (l, hpNew n mk)).1 (hpIter c (5 + S) (l, hpNew n mk)).2 = _
    rw [s6]; rfl
  have s8 : ∀ j, hpIter c (j + 1) (hpIter c (6 + S) (l, hpNew n mk)) = (mput (mput (zsl c l2 v S) (c.nodeAt v 2) mk) (c.nodeAt v 1) 1, ⟨n, sOf n, mk, H, X, v, false, 1, S, v, 0, 0, 0, 0, 0⟩) := by
    intro j
    induction j with
    | zero => show hpStep c (hpIter c (6 + S) (l, hpNew n mk)).1 (hpIter c (6 + S) (l, hpNew n mk)).2 = _; rw [s7]; rfl
    | succ j ih =>
      show hpStep c (hpIter c (j + 1) (hpIter c (6 + S) (l, hpNew n mk))).1 (hpIter c (j + 1) (hpIter c (6 + S) (l, hpNew n mk))).2 = _
      rw [ih]; rfl
  obtain ⟨j, hj⟩ : ∃ j, 32 = (6 + S) + (j + 1) := ⟨25 - S, by omega⟩
  rw [hj, hpIter_add, s8, ← hS]
  unfold aMem
  rw [← hH, ← hX, ← hl1, ← hl2, ← hS]
  rfl
end
/-- A class's list that is empty. -/
theorem full_step {c : Cfg} {l : List Int} {n mk : Int} (hk : 0 ≤ sOf n) (hv : mld l (c.headAt (sOf n)) % 4294967296 = 0) : hpStep c l (hpNew n mk) = (l, ⟨n, sOf n, mk, mld l (c.headAt (sOf n)), 0, 0, false, 1, 0, 0, 22, 0, 0, 0, 0⟩) := by
  have e0 : hpNew n mk = ⟨n, sOf n, mk, 0, 0, 0, false, 0, 0, 0, 0, 0, 0, 0, 1⟩ := by unfold hpNew; rw [decide_eq_true hk]; rfl
  rw [e0]
  show (l, Hp.mk n (sOf n) mk (mld l (c.headAt (sOf n))) 0 (mld l (c.headAt (sOf n)) % 4294967296) false (wrap64 (0 + 1)) 0 0 (hpE (mld l (c.headAt (sOf n)) % 4294967296 == 0) 22 0) 0 0 0 (hpPc (mld l (c.headAt (sOf n)) % 4294967296 == 0) 0 2)) = _
  rw [hv, w01]; rfl
end Go.Proofs.Ytmiaghbakdapbaa
