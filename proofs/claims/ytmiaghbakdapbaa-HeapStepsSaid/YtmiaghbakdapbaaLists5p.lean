/- The lists of free cells, in plain Lean: how long they are. -/
import Derived.Test.YtmiaghbakdapbaaFirst5w
set_option linter.unusedVariables false
set_option linter.unusedSimpArgs false
namespace Go.Proofs.Ytmiaghbakdapbaa
open Go.ChangeShapes Go.WideShapes Go.ChangeAt Go.RowKit

theorem lst_ok (c : Cfg) (q lo : Int) : ∀ k : Nat, (k : Int) + 1 ≤ c.nd → lst c q lo k = 0 ∨ (lo < lst c q lo k ∧ c.nd - k ≤ lst c q lo k ∧ lst c q lo k < c.nd ∧ c.clsAt (lst c q lo k) = q)
  | 0, _ => .inl rfl
  | k + 1, h => by
    simp only [lst]
    by_cases e : c.clsAt (c.nd - ((k + 1 : Nat) : Int)) = q ∧ lo < c.nd - ((k + 1 : Nat) : Int)
    · rw [if_pos e]; exact .inr ⟨e.2, by omega, by omega, e.1⟩
    · rw [if_neg e]
      rcases lst_ok c q lo k (by omega) with r | ⟨r1, r2, r3, r4⟩
      · exact .inl r
      · exact .inr ⟨r1, by omega, r3, r4⟩

/-- How many of the last k nodes but one, above lo, are of a class. -/
def cntA (c : Cfg) (q lo : Int) : Nat → Int
  | 0 => 0
  | k + 1 => cntA c q lo k + (if c.clsAt (c.nd - ((k + 1 : Nat) : Int)) = q ∧ lo < c.nd - ((k + 1 : Nat) : Int) then 1 else 0)
theorem cntA_bd (c : Cfg) (q lo : Int) : ∀ k, 0 ≤ cntA c q lo k ∧ cntA c q lo k ≤ k
  | 0 => by simp [cntA]
  | k + 1 => by
    have := cntA_bd c q lo k
    simp only [cntA]
    split <;> omega
theorem cntA_low (c : Cfg) (q : Int) : ∀ (k : Nat) (lo lo' : Int), lo < c.nd - k → lo' < c.nd - k → cntA c q lo k = cntA c q lo' k
  | 0, _, _, _, _ => rfl
  | k + 1, lo, lo', h, h' => by
    have ih := cntA_low c q k lo lo' (by omega) (by omega)
    simp only [cntA]
    rw [ih]
    by_cases e : c.clsAt (c.nd - ((k + 1 : Nat) : Int)) = q
    · rw [if_pos ⟨e, by omega⟩, if_pos ⟨e, by omega⟩]
    · rw [if_neg (fun h => e h.1), if_neg (fun h => e h.1)]
theorem cntA_step (c : Cfg) (q lo : Int) : ∀ k : Nat, (k : Int) + 1 ≤ c.nd → (lst c q lo k = 0 → cntA c q lo k = 0) ∧ (lst c q lo k ≠ 0 → cntA c q lo k = 1 + cntA c q (lst c q lo k) k)
  | 0, _ => ⟨fun _ => rfl, fun h => absurd rfl h⟩
  | k + 1, h => by
    obtain ⟨i1, i2⟩ := cntA_step c q lo k (by omega)
    by_cases e : c.clsAt (c.nd - ((k + 1 : Nat) : Int)) = q ∧ lo < c.nd - ((k + 1 : Nat) : Int)
    · have hL : lst c q lo (k + 1) = c.nd - ((k + 1 : Nat) : Int) := by simp only [lst]; rw [if_pos e]
      rw [hL]
      simp only [cntA]
      rw [if_pos e]
      refine ⟨fun r => by omega, fun _ => ?_⟩
      rw [if_neg (fun r => by omega)]
      rw [cntA_low c q k lo (c.nd - ((k + 1 : Nat) : Int)) (by omega) (by omega)]
      omega
    · have hL : lst c q lo (k + 1) = lst c q lo k := by simp only [lst]; rw [if_neg e]
      rw [hL]
      simp only [cntA]
      rw [if_neg e]
      refine ⟨fun r => by rw [i1 r]; rfl, fun r => ?_⟩
      rw [i2 r]
      rcases lst_ok c q lo k (by omega) with r' | ⟨r1, r2, r3, r4⟩
      · exact absurd r' r
      · rw [if_neg (fun s => by omega)]; omega

/-- How many nodes but the common one are of the first classes. -/
def sumC (c : Cfg) (n : Nat) : Nat → Int
  | 0 => 0
  | k + 1 => sumC c n k + cntA c (k : Nat) 0 n
theorem sumC_bd (c : Cfg) (n : Nat) : ∀ k, 0 ≤ sumC c n k
  | 0 => by simp [sumC]
  | k + 1 => by have := sumC_bd c n k; have := cntA_bd c (k : Nat) 0 n; simp only [sumC]; omega
theorem sumC_mono (c : Cfg) (n k : Nat) (h : k ≤ 5) : sumC c n k ≤ sumC c n 5 := by
  have a := fun j : Nat => (cntA_bd c (j : Nat) 0 n).1
  have e : k = 0 ∨ k = 1 ∨ k = 2 ∨ k = 3 ∨ k = 4 ∨ k = 5 := by omega
  have a0 := a 0; have a1 := a 1; have a2 := a 2; have a3 := a 3; have a4 := a 4
  rcases e with rfl | rfl | rfl | rfl | rfl | rfl <;> simp only [sumC] <;> omega
theorem sumC_all (c : Cfg) : ∀ n : Nat, (n : Int) + 1 ≤ c.nd → sumC c n 5 = n
  | 0, _ => by simp [sumC, cntA]
  | n + 1, h => by
    have ih := sumC_all c n (by omega)
    have hq := clsAt_bd (c := c) (c.nd - ((n + 1 : Nat) : Int)) (by omega)
    simp only [sumC, cntA] at ih ⊢
    obtain ⟨q, hq'⟩ : ∃ q, q = c.clsAt (c.nd - ((n + 1 : Nat) : Int)) := ⟨_, rfl⟩
    rw [← hq'] at hq ⊢
    have hl : (0 : Int) < c.nd - ((n + 1 : Nat) : Int) := by omega
    have e : q = 0 ∨ q = 1 ∨ q = 2 ∨ q = 3 ∨ q = 4 := by omega
    rcases e with rfl | rfl | rfl | rfl | rfl <;> simp [hl] <;> simp at ih <;> omega

/-- The word at a thing's place. -/
theorem first_at {c : Cfg} (h : CfgOk c) (t : Th) (ht : t ∈ c.things) : ∃ p : Nat, c.atOf t = p ∧ p < c.first.length ∧ c.first[p]? = some (gFirst c t) := by
  obtain ⟨p, hp⟩ := List.mem_iff_getElem?.1 ht
  have := words_first h p t hp
  exact ⟨p, things_at h t p hp, (List.getElem?_eq_some_iff.1 this).1, this⟩

theorem mem_single {c : Cfg} (k : Int) (h0 : 0 ≤ k) (h1 : k ≤ 5) : (⟨k, 0, 0⟩ : Th) ∈ c.things := by
  unfold Cfg.things
  simp only [List.mem_append]
  exact .inl (.inl (.inl (.inl (.inl (List.mem_map.2 ⟨k.toNat, List.mem_range.2 (by omega), by congr 1; omega⟩)))))

theorem gFirst_head {c : Cfg} (q : Int) : gFirst c ⟨7, q, 0⟩ = lst c q 0 (c.nd - 1).toNat := by simp [gFirst, gNext]
theorem gFirst_next {c : Cfg} (v : Int) (h1 : 1 ≤ v) (h2 : v < c.nd) : gFirst c ⟨17, v, 0⟩ = lst c (c.clsAt v) v (c.nd - 1).toNat := by
  unfold gFirst gNext
  rw [if_neg (by dsimp only; omega), if_pos ⟨rfl, by dsimp only; omega, h2⟩]
theorem gFirst_link {c : Cfg} (p : Int) : gFirst c ⟨12, p, 0⟩ = if p ≤ c.mn - 1 then p + 1 else 0 := by
  simp [gFirst, gNext, gComm, gLink, gBase]
theorem gFirst_pool {c : Cfg} : gFirst c ⟨4, 0, 0⟩ = 0 := by simp [gFirst, gNext, gComm, gLink, gBase]
theorem gFirst_spare {c : Cfg} : gFirst c ⟨5, 0, 0⟩ = 1 := by simp [gFirst, gNext, gComm, gLink, gBase]
theorem gFirst_state {c : Cfg} : gFirst c ⟨15, c.nd, 0⟩ = 1 := by simp [gFirst, gNext, gComm]
theorem gFirst_header {c : Cfg} : gFirst c ⟨14, c.nd, 0⟩ = c.roomAt c.nd := by simp [gFirst, gNext, gComm]

end Go.Proofs.Ytmiaghbakdapbaa
