/- Many machines that try to mark nodes, in plain Lean: what is known of them however their steps come one behind the other. -/
import Derived.Test.YtfcookfocihjlaaLaw12b
set_option linter.unusedVariables false
set_option linter.unusedSimpArgs false
namespace Go.Proofs.Ytfcookfocihjlaa
open Go.ChangeShapes Go.WideShapes Go.ChangeAt Go.RowKit

/-- What a machine holds of the work: one behind its count, till it is finished without having won. -/
def hold (m : Cl) : Int := if m.pc = 3 ∨ m.pc = 4 ∨ m.won = true then 1 else 0
def lsum : List Int → Int
  | [] => 0
  | x :: l => x + lsum l
theorem lsum_set : ∀ (l : List Int) (j : Nat) (x y : Int), l[j]? = some x → lsum (l.set j y) = lsum l - x + y
  | [], _, _, _, h => by simp at h
  | a :: l, 0, x, y, h => by simp at h; subst h; simp [lsum]; omega
  | a :: l, j + 1, x, y, h => by
    have := lsum_set l j x y (by simpa using h)
    simp only [List.set_cons_succ, lsum, this]; omega
theorem lsum_app : ∀ (l m : List Int), lsum (l ++ m) = lsum l + lsum m
  | [], m => by simp [lsum]
  | a :: l, m => by simp only [List.cons_append, lsum, lsum_app l m]; omega
def holds (ms : List Cl) : Int := lsum (ms.map hold)
theorem hold_bd (m : Cl) : 0 ≤ hold m ∧ hold m ≤ 1 := by unfold hold; split <;> omega
theorem holds_bd : ∀ ms : List Cl, 0 ≤ holds ms ∧ holds ms ≤ ms.length
  | [] => by simp [holds, lsum]
  | m :: ms => by
    have h1 := hold_bd m
    have h2 := holds_bd ms
    simp only [holds, List.map_cons, lsum, List.length_cons] at h2 ⊢
    omega
theorem holds_set (ms : List Cl) (j : Nat) (m m' : Cl) (h : ms[j]? = some m) : holds (ms.set j m') = holds ms - hold m + hold m' := by
  unfold holds
  rw [List.map_set, lsum_set _ _ (hold m) _ (by rw [List.getElem?_map, h]; rfl)]

/-- What is known of one machine: cy the cycle, o what its node's mark was, won the machine that marked it. -/
structure M1 (cy o : Int) (win : Option Nat) (j : Nat) (m : Cl) : Prop where
  hcy : m.cy = cy
  pc : m.pc ≤ 4
  two : m.pc = 2 ∨ m.pc = 3 → m.k = o ∧ o < cy
  four : m.pc = 4 → win ≠ none
  nil : m.pc = 0 → m.won = false → cy ≤ o ∨ win ≠ none
  won : m.won = true ↔ win = some j
  wpc : m.won = true → m.pc = 0

/-- What is known of all. -/
structure IM (c : Cfg) (cy : Int) (old : Int → Int) (len : Nat) (l : List Int) (ms : List Cl) (W : Int → Option Nat) : Prop where
  len : l.length = len
  wk : mld l 1 = holds ms
  mark : ∀ v, 1 ≤ v → v ≤ c.nd → mld l (c.nodeAt v 2) = if W v = none then old v else cy
  wlt : ∀ v, W v ≠ none → old v < cy
  v : ∀ (j : Nat) m, ms[j]? = some m → 1 ≤ m.v ∧ m.v ≤ c.nd
  one : ∀ (j : Nat) m, ms[j]? = some m → M1 cy (old m.v) (W m.v) j m
  rng : ∀ v j, W v = some j → ∃ m, ms[j]? = some m ∧ m.v = v

/-- Marks stand apart. -/
structure Apart (c : Cfg) (len : Nat) : Prop where
  in_ : ∀ v, 1 ≤ v → v ≤ c.nd → 2 ≤ c.nodeAt v 2 ∧ c.nodeAt v 2 < len
  ne : ∀ v u, 1 ≤ v → v ≤ c.nd → 1 ≤ u → u ≤ c.nd → v ≠ u → c.nodeAt v 2 ≠ c.nodeAt u 2
  one : 2 < len

theorem wrap_u64_sub (x : Int) (h0 : 1 ≤ x) (h1 : x < 1000) : IntKind.u64.wrap (x + 18446744073709551615) = x - 1 := by
  rw [IntKind.wrap_u64]; omega

theorem im_step {c : Cfg} {cy : Int} {old : Int → Int} {len : Nat} {l : List Int} {ms : List Cl} {W : Int → Option Nat} (hA : Apart c len) (I : IM c cy old len l ms W) (hl : ms.length < 900) (j : Nat) (m : Cl) (hj : ms[j]? = some m) :
    ∃ W', IM c cy old len (clStep c l m).1 (ms.set j (clStep c l m).2) W' := by
  obtain ⟨i1, i2, i3, i4, i5, i6, i7⟩ := I
  have hv := i5 j m hj
  have M := i6 j m hj
  have hin := hA.in_ m.v hv.1 hv.2
  have hone := hA.one
  have hjl := (List.getElem?_eq_some_iff.1 hj).1
  have hbd := holds_bd ms
  have hmk := i3 m.v hv.1 hv.2
  -- a machine that is set keeps what is known of the others, if who won is the same
  have keep : ∀ (m' : Cl), m'.v = m.v → M1 cy (old m.v) (W m.v) j m' → (∀ (i : Nat) x, (ms.set j m')[i]? = some x → 1 ≤ x.v ∧ x.v ≤ c.nd) ∧ (∀ (i : Nat) x, (ms.set j m')[i]? = some x → M1 cy (old x.v) (W x.v) i x) := by
    intro m' e h
    refine ⟨fun i x hx => ?_, fun i x hx => ?_⟩
    · by_cases q : j = i
      · subst q
        rw [List.getElem?_set_self hjl] at hx
        cases hx; rw [e]; exact hv
      · rw [List.getElem?_set_ne q] at hx; exact i5 i x hx
    · by_cases q : j = i
      · subst q
        rw [List.getElem?_set_self hjl] at hx
        cases hx; rw [e]; exact h
      · rw [List.getElem?_set_ne q] at hx; exact i6 i x hx
  have rg : ∀ (m' : Cl), m'.v = m.v → ∀ u i, W u = some i → ∃ x, (ms.set j m')[i]? = some x ∧ x.v = u := by
    intro m' e u i hu
    obtain ⟨x, hx, hxv⟩ := i7 u i hu
    by_cases q : j = i
    · subst q
      rw [hj] at hx; cases hx
      exact ⟨m', by rw [List.getElem?_set_self hjl], by rw [e]; exact hxv⟩
    · exact ⟨x, by rw [List.getElem?_set_ne q]; exact hx, hxv⟩
  obtain ⟨v, cy', k, won, pc⟩ := m
  dsimp only at hv hin hmk keep rg
  obtain ⟨m1, m2, m3, m4, m5, m6, m7⟩ := M
  dsimp only at m1 m2 m3 m4 m5 m6 m7
  subst m1
  have hpc : pc = 0 ∨ pc = 1 ∨ pc = 2 ∨ pc = 3 ∨ pc = 4 := by omega
  rcases hpc with rfl | rfl | rfl | rfl | rfl
  · -- finished
    refine ⟨W, ?_⟩
    have e : ms.set j ⟨v, cy', k, won, 0⟩ = ms := lset_is hj
    show IM c cy' old len l (ms.set j ⟨v, cy', k, won, 0⟩) W
    rw [e]
    exact ⟨i1, i2, i3, i4, i5, i6, i7⟩
  · -- look
    have hw : won = false := by
      cases won with
      | false => rfl
      | true => exact absurd (m7 rfl) (by decide)
    subst hw
    refine ⟨W, ?_⟩
    show IM c cy' old len l (ms.set j ⟨v, cy', mld l (c.nodeAt v 2), false, clPc (decide (cy' ≤ mld l (c.nodeAt v 2))) 2⟩) W
    have hM : M1 cy' (old v) (W v) j ⟨v, cy', mld l (c.nodeAt v 2), false, clPc (decide (cy' ≤ mld l (c.nodeAt v 2))) 2⟩ := by
      by_cases q : cy' ≤ mld l (c.nodeAt v 2)
      · have e : clPc (decide (cy' ≤ mld l (c.nodeAt v 2))) 2 = 0 := by simp [clPc, q]
        rw [e]
        refine ⟨rfl, by dsimp only; omega, fun h => ?_, fun h => ?_, fun _ _ => ?_, m6, fun h => by cases h⟩
        · dsimp only at h; omega
        · dsimp only at h; omega
        · rw [hmk] at q
          by_cases r : W v = none
          · rw [if_pos r] at q; exact .inl q
          · exact .inr r
      · have e : clPc (decide (cy' ≤ mld l (c.nodeAt v 2))) 2 = 2 := by simp [clPc, q]
        rw [e]
        have r : W v = none := by
          by_cases r : W v = none
          · exact r
          · rw [hmk, if_neg r] at q; omega
        rw [hmk, if_pos r] at q
        refine ⟨rfl, by dsimp only; omega, fun _ => ⟨?_, by omega⟩, fun h => ?_, fun h => ?_, m6, fun h => by cases h⟩
        · dsimp only; rw [hmk, if_pos r]
        · dsimp only at h; omega
        · dsimp only at h; omega
    have hh : hold ⟨v, cy', mld l (c.nodeAt v 2), false, clPc (decide (cy' ≤ mld l (c.nodeAt v 2))) 2⟩ = 0 := by
      unfold hold
      cases decide (cy' ≤ mld l (c.nodeAt v 2)) <;> simp [clPc]
    have h0 : hold ⟨v, cy', k, false, 1⟩ = 0 := by simp [hold]
    obtain ⟨k1, k2⟩ := keep _ rfl hM
    exact ⟨i1, by rw [holds_set _ _ _ _ hj, hh, h0, i2]; omega, i3, i4, k1, k2, rg _ rfl⟩
  · -- count
    have hw : won = false := by
      cases won with
      | false => rfl
      | true => exact absurd (m7 rfl) (by decide)
    subst hw
    refine ⟨W, ?_⟩
    show IM c cy' old len (madd l 1 1) (ms.set j ⟨v, cy', k, false, 3⟩) W
    have hM : M1 cy' (old v) (W v) j ⟨v, cy', k, false, 3⟩ := ⟨rfl, by dsimp only; omega, fun _ => m3 (.inl rfl), fun h => by dsimp only at h; omega, fun h => by dsimp only at h; omega, m6, fun h => by cases h⟩
    have hh : hold ⟨v, cy', k, false, 3⟩ = 1 := by simp [hold]
    have h0 : hold ⟨v, cy', k, false, 2⟩ = 0 := by simp [hold]
    obtain ⟨k1, k2⟩ := keep _ rfl hM
    refine ⟨by unfold madd; rw [mput_length]; exact i1, ?_, fun u hu1 hu2 => ?_, i4, k1, k2, rg _ rfl⟩
    · unfold madd
      rw [mld_mput_same (by omega), i2, holds_set _ _ _ _ hj, hh, h0, wrapu64_id _ (by omega) (by omega)]; omega
    · unfold madd
      have := hA.in_ u hu1 hu2
      rw [mld_mput_ne _ _ _ _ (by omega)]; exact i3 u hu1 hu2
  · -- swap
    have hw : won = false := by
      cases won with
      | false => rfl
      | true => exact absurd (m7 rfl) (by decide)
    subst hw
    obtain ⟨rfl, hlt⟩ := m3 (.inr rfl)
    have h0 : hold ⟨v, cy', old v, false, 3⟩ = 1 := by simp [hold]
    by_cases r : W v = none
    · have hs : mswapped l (c.nodeAt v 2) (old v) = true := by
        unfold mswapped
        rw [hmk, if_pos r]
        simp; omega
      have hs2 : mswap l (c.nodeAt v 2) (old v) cy' = mput l (c.nodeAt v 2) cy' := by unfold mswap; rw [if_pos hs]
      refine ⟨fun u => if u = v then some j else W u, ?_⟩
      show IM c cy' old len (mswap l (c.nodeAt v 2) (old v) cy') (ms.set j ⟨v, cy', old v, mswapped l (c.nodeAt v 2) (old v), clPc (mswapped l (c.nodeAt v 2) (old v)) 4⟩) _
      rw [hs, hs2]
      have hh : hold ⟨v, cy', old v, true, clPc true 4⟩ = 1 := by simp [hold]
      refine ⟨by rw [mput_length]; exact i1, ?_, fun u hu1 hu2 => ?_, fun u hu => ?_, fun i x hx => ?_, fun i x hx => ?_, fun u i hu => ?_⟩
      · rw [mld_mput_ne _ _ _ _ (by omega), i2, holds_set _ _ _ _ hj, hh, h0]; omega
      · by_cases e : u = v
        · subst e
          rw [mld_mput_same (by omega), if_neg (by simp)]
        · rw [mld_mput_ne _ _ _ _ (hA.ne v u hv.1 hv.2 hu1 hu2 (Ne.symm e)), i3 u hu1 hu2]
          simp only [if_neg e]
      · by_cases e : u = v
        · subst e; exact hlt
        · simp only [if_neg e] at hu; exact i4 u hu
      · by_cases q : j = i
        · subst q
          rw [List.getElem?_set_self hjl] at hx
          cases hx; exact hv
        · rw [List.getElem?_set_ne q] at hx; exact i5 i x hx
      · by_cases q : j = i
        · subst q
          rw [List.getElem?_set_self hjl] at hx
          cases hx
          refine ⟨rfl, by simp [clPc], fun h => ?_, fun h => ?_, (fun _ h => by cases h), ?_, fun _ => rfl⟩
          · simp [clPc] at h
          · simp [clPc] at h
          · simp
        · rw [List.getElem?_set_ne q] at hx
          have X := i6 i x hx
          by_cases e : x.v = v
          · rw [e] at X ⊢
            simp only [if_pos rfl]
            refine ⟨X.hcy, X.pc, X.two, fun _ => by simp, fun _ _ => .inr (by simp), ⟨fun h => ?_, fun h => ?_⟩, X.wpc⟩
            · have := X.won.1 h; rw [r] at this; cases this
            · cases h; exact absurd rfl q
          · simp only [if_neg e]
            exact X
      · by_cases e : u = v
        · subst e
          simp only [if_pos rfl] at hu
          cases hu
          exact ⟨_, by rw [List.getElem?_set_self hjl], rfl⟩
        · simp only [if_neg e] at hu
          exact rg ⟨v, cy', old v, true, clPc true 4⟩ rfl u i hu
    · have hs : mswapped l (c.nodeAt v 2) (old v) = false := by
        unfold mswapped
        rw [hmk, if_neg r]
        have : (cy' == old v) = false := by simp; omega
        rw [this, Bool.and_false]
      have hs2 : mswap l (c.nodeAt v 2) (old v) cy' = l := by unfold mswap; rw [if_neg (by rw [hs]; decide)]
      refine ⟨W, ?_⟩
      show IM c cy' old len (mswap l (c.nodeAt v 2) (old v) cy') (ms.set j ⟨v, cy', old v, mswapped l (c.nodeAt v 2) (old v), clPc (mswapped l (c.nodeAt v 2) (old v)) 4⟩) _
      rw [hs, hs2]
      have hh : hold ⟨v, cy', old v, false, clPc false 4⟩ = 1 := by simp [hold, clPc]
      have hM : M1 cy' (old v) (W v) j ⟨v, cy', old v, false, clPc false 4⟩ := ⟨rfl, by simp [clPc], fun h => by simp [clPc] at h, fun _ => r, fun h => by simp [clPc] at h, m6, fun h => by cases h⟩
      obtain ⟨k1, k2⟩ := keep _ rfl hM
      exact ⟨i1, by rw [holds_set _ _ _ _ hj, hh, h0, i2]; omega, i3, i4, k1, k2, rg _ rfl⟩
  · -- back
    have hw : won = false := by
      cases won with
      | false => rfl
      | true => exact absurd (m7 rfl) (by decide)
    subst hw
    refine ⟨W, ?_⟩
    show IM c cy' old len (madd l 1 18446744073709551615) (ms.set j ⟨v, cy', k, false, 0⟩) W
    have hM : M1 cy' (old v) (W v) j ⟨v, cy', k, false, 0⟩ := ⟨rfl, by dsimp only; omega, fun h => by dsimp only at h; omega, fun h => by dsimp only at h; omega, fun _ _ => .inr (m4 rfl), m6, fun h => by cases h⟩
    have hh : hold ⟨v, cy', k, false, 0⟩ = 0 := by simp [hold]
    have h0 : hold ⟨v, cy', k, false, 4⟩ = 1 := by simp [hold]
    obtain ⟨k1, k2⟩ := keep _ rfl hM
    have hb2 := holds_bd (ms.set j ⟨v, cy', k, false, 0⟩)
    have hs := holds_set _ _ _ ⟨v, cy', k, false, 0⟩ hj
    rw [hh, h0] at hs
    refine ⟨by unfold madd; rw [mput_length]; exact i1, ?_, fun u hu1 hu2 => ?_, i4, k1, k2, rg _ rfl⟩
    · unfold madd
      rw [mld_mput_same (by omega), i2, wrap_u64_sub _ (by omega) (by omega), hs]; omega
    · unfold madd
      have := hA.in_ u hu1 hu2
      rw [mld_mput_ne _ _ _ _ (by omega)]; exact i3 u hu1 hu2

/-- How many steps a machine has yet to make at most. -/
def rank (m : Cl) : Nat := if m.pc = 0 then 0 else 5 - m.pc
theorem rank_step (c : Cfg) (l : List Int) (m : Cl) (h : m.pc ≤ 4) : rank (clStep c l m).2 ≤ rank m - 1 := by
  obtain ⟨v, cy, k, won, pc⟩ := m
  dsimp only at h
  have hpc : pc = 0 ∨ pc = 1 ∨ pc = 2 ∨ pc = 3 ∨ pc = 4 := by omega
  rcases hpc with rfl | rfl | rfl | rfl | rfl
  · simp [clStep, rank]
  · show rank ⟨v, cy, mld l (c.nodeAt v 2), won, clPc (decide (cy ≤ mld l (c.nodeAt v 2))) 2⟩ ≤ rank ⟨v, cy, k, won, 1⟩ - 1
    cases decide (cy ≤ mld l (c.nodeAt v 2)) <;> simp [rank, clPc]
  · simp [clStep, rank]
  · show rank ⟨v, cy, k, mswapped l (c.nodeAt v 2) k, clPc (mswapped l (c.nodeAt v 2) k) 4⟩ ≤ rank ⟨v, cy, k, won, 3⟩ - 1
    cases mswapped l (c.nodeAt v 2) k <;> simp [rank, clPc]
  · simp [clStep, rank]

/-- How many of the numbers below x are j but for multiples of k. -/
def upto (k j x : Nat) : Nat := (x + (k - 1 - j)) / k
theorem upto_step (k j x : Nat) (hk : 1 ≤ k ∧ k ≤ 8) (hj : j < k) : upto k j (x + 1) = upto k j x + if x % k = j then 1 else 0 := by
  unfold upto
  have : k = 1 ∨ k = 2 ∨ k = 3 ∨ k = 4 ∨ k = 5 ∨ k = 6 ∨ k = 7 ∨ k = 8 := by omega
  rcases this with rfl | rfl | rfl | rfl | rfl | rfl | rfl | rfl <;> split <;> omega
theorem upto_end (k j x : Nat) (hk : 1 ≤ k) (hj : j < k) : upto k j (x + 4 * k) = upto k j x + 4 := by
  unfold upto
  have : x + 4 * k + (k - 1 - j) = (x + (k - 1 - j)) + 4 * k := by omega
  rw [this, Nat.add_mul_div_right _ _ (by omega)]

/-- All will be finished: P the picks, i the step. -/
def Ends (k P i : Nat) (ms : List Cl) : Prop := ∀ (j : Nat) m, ms[j]? = some m → rank m ≤ 4 ∧ (P ≤ i → rank m = 0 ∨ rank m + upto k j i ≤ 4 + upto k j P)

theorem ends_step {c : Cfg} {k P i : Nat} {ms : List Cl} (l : List Int) (h : Ends k P i ms) (hk : 1 ≤ k ∧ k ≤ 8) (hl : ms.length = k) (j : Nat) (m : Cl) (hj : ms[j]? = some m) (hp : m.pc ≤ 4) (hr : P ≤ i → i % k = j) :
    Ends k P (i + 1) (ms.set j (clStep c l m).2) := by
  intro q x hx
  have hjl := (List.getElem?_eq_some_iff.1 hj).1
  by_cases e : j = q
  · subst e
    rw [List.getElem?_set_self hjl] at hx
    cases hx
    have hs := rank_step c l m hp
    obtain ⟨h1, h2⟩ := h j m hj
    refine ⟨by omega, fun hP => ?_⟩
    by_cases hP' : P ≤ i
    · have := h2 hP'
      rw [upto_step k j i hk (by omega), if_pos (hr hP')]
      omega
    · obtain rfl : P = i + 1 := by omega
      omega
  · rw [List.getElem?_set_ne e] at hx
    obtain ⟨h1, h2⟩ := h q x hx
    have hql := (List.getElem?_eq_some_iff.1 hx).1
    refine ⟨h1, fun hP => ?_⟩
    by_cases hP' : P ≤ i
    · have := h2 hP'
      rw [upto_step k q i hk (by omega), if_neg (by rw [hr hP']; exact e)]
      omega
    · obtain rfl : P = i + 1 := by omega
      omega
theorem ends_all {k P : Nat} {ms : List Cl} (h : Ends k P (P + 4 * k) ms) (hk : 1 ≤ k) (hl : ms.length = k) (j : Nat) (m : Cl) (hj : ms[j]? = some m) (hp : m.pc ≤ 4) : m.pc = 0 := by
  have hjl := (List.getElem?_eq_some_iff.1 hj).1
  have := (h j m hj).2 (by omega)
  rw [upto_end k j P hk (by omega)] at this
  unfold rank at this
  split at this
  · assumption
  · omega

theorem holds_zero : ∀ ms : List Cl, (∀ (j : Nat) m, ms[j]? = some m → hold m = 0) → holds ms = 0
  | [], _ => rfl
  | m :: ms, h => by
    have h0 := h 0 m rfl
    have := holds_zero ms fun j x hx => h (j + 1) x (by simpa using hx)
    simp only [holds, List.map_cons, lsum] at this ⊢
    omega
theorem holds_one : ∀ (ms : List Cl) (j0 : Nat), j0 < ms.length → (∀ (j : Nat) m, ms[j]? = some m → hold m = if j = j0 then 1 else 0) → holds ms = 1
  | [], _, h, _ => by simp at h
  | m :: ms, 0, _, h => by
    have h0 := h 0 m rfl
    have := holds_zero ms fun j x hx => by rw [h (j + 1) x (by simpa using hx)]; simp
    simp only [holds, List.map_cons, lsum] at this ⊢
    rw [if_pos rfl] at h0
    omega
  | m :: ms, j0 + 1, hl, h => by
    have h0 : hold m = 0 := by rw [h 0 m rfl]; simp
    have := holds_one ms j0 (by simpa using hl) fun j x hx => by
      rw [h (j + 1) x (by simpa using hx)]
      by_cases e : j = j0
      · rw [if_pos e, if_pos (by rw [e])]
      · rw [if_neg e, if_neg (fun q => e (by omega))]
    simp only [holds, List.map_cons, lsum] at this ⊢
    omega
theorem hold_end {m : Cl} (h : m.pc = 0) : hold m = if m.won = true then 1 else 0 := by
  unfold hold
  by_cases q : m.won = true
  · rw [if_pos (.inr (.inr q)), if_pos q]
  · have r : ¬ (m.pc = 3 ∨ m.pc = 4 ∨ m.won = true) := by rintro (r | r | r) <;> first | omega | exact q r
    rw [if_neg r, if_neg q]

/-- In the end one has won, or none. -/
theorem once_end {c : Cfg} {cy : Int} {old : Int → Int} {len : Nat} {l : List Int} {ms : List Cl} {W : Int → Option Nat} (I : IM c cy old len l ms W) (hp : ∀ (j : Nat) m, ms[j]? = some m → m.pc = 0) (u : Int) (hv : ∀ (j : Nat) m, ms[j]? = some m → m.v = u) (h0 : 0 < ms.length) :
    (cy ≤ old u ∧ holds ms = 0 ∧ W u = none) ∨ (old u < cy ∧ holds ms = 1 ∧ W u ≠ none) := by
  by_cases q : cy ≤ old u
  · have hW : W u = none := by
      by_cases r : W u = none
      · exact r
      · have := I.wlt u r; omega
    refine .inl ⟨q, holds_zero ms fun j m hm => ?_, hW⟩
    have M := I.one j m hm
    rw [hold_end (hp j m hm), if_neg]
    intro hw
    have := M.won.1 hw
    rw [hv j m hm, hW] at this; cases this
  · obtain ⟨m0, hm0⟩ : ∃ m0, ms[0]? = some m0 := ⟨ms[0], by simp [h0]⟩
    have M0 := I.one 0 m0 hm0
    rw [hv 0 m0 hm0] at M0
    have hW : W u ≠ none := by
      by_cases hw : m0.won = true
      · rw [M0.won.1 hw]; simp
      · rcases M0.nil (hp 0 m0 hm0) (by simpa using hw) with r | r
        · omega
        · exact r
    refine .inr ⟨by omega, ?_, hW⟩
    obtain ⟨j0, hj0⟩ := Option.ne_none_iff_exists'.1 hW
    obtain ⟨mj, hmj, _⟩ := I.rng u j0 hj0
    refine holds_one ms j0 (List.getElem?_eq_some_iff.1 hmj).1 fun j m hm => ?_
    have M := I.one j m hm
    rw [hold_end (hp j m hm)]
    by_cases e : j = j0
    · rw [if_pos e, if_pos]
      rw [M.won, hv j m hm, e]; exact hj0
    · rw [if_neg e, if_neg]
      intro hw
      have := M.won.1 hw
      rw [hv j m hm, hj0] at this
      cases this; exact e rfl

theorem pc_of {c : Cfg} {cy : Int} {old : Int → Int} {len : Nat} {l : List Int} {ms : List Cl} {W : Int → Option Nat} (I : IM c cy old len l ms W) (j : Nat) (m : Cl) (h : ms[j]? = some m) : m.pc ≤ 4 := (I.one j m h).pc

end Go.Proofs.Ytfcookfocihjlaa
