/- Layer 21, in plain Lean: what the words are at first, what is said, and how far a detector is. Condition: the configuration may be. -/
import Derived.Test.YtgodnmcfbbchoaaFirst5w
import Derived.Test.YtgodnmcfbbchoaaDt21p
set_option linter.unusedVariables false
set_option linter.unusedSimpArgs false
namespace Go.Proofs.Ytgodnmcfbbchoaa
open Go.ChangeShapes Go.WideShapes Go.ChangeAt Go.RowKit

theorem first_lo {c : Cfg} (h : CfgOk c) (k : Int) (h0 : 0 ≤ k) (h1 : k < 5) : mld c.first k = 0 := by
  have hm : (⟨k, 0, 0⟩ : Th) ∈ c.things := mem_of h _ ⟨by dsimp only; omega, by dsimp only; omega, by dsimp only; omega⟩ (by rw [atOf_base k h0 (by omega)]; exact h0)
  have hg := words_get h (words_first h) _ hm
  rw [atOf_base k h0 (by omega)] at hg
  have hb := cfg_bd h
  have hmu := h.mu
  rw [mld_in ⟨h0, by rw [first_len]; have := hb.dqP; have := hb.pk; have := hb.n0; have := hb.al; omega⟩, hg]
  have k5 : k ≠ 5 := by omega
  have k7 : k ≠ 7 := by omega
  have k12 : k ≠ 12 := by omega
  have k14 : k ≠ 14 := by omega
  have k15 : k ≠ 15 := by omega
  have k17 : k ≠ 17 := by omega
  simp [gFirst, gNext, gComm, gLink, gBase, k5, k7, k12, k14, k15, k17]

theorem first_room {c : Cfg} (h : CfgOk c) : 6 + c.mu ≤ (c.first.length : Int) ∧ (c.first.length : Int) < 1000000 := by
  have hb := cfg_bd h
  have hmu := h.mu
  rw [first_len]; have := hb.dqP; have := hb.pk; have := hb.n0; have := hb.al; omega

/-- The first words of what is said, all alike. -/
def ackF (c : Cfg) (l : List Int) (v : Int) : Nat → List Int
  | 0 => l
  | i + 1 => mput (ackF c l v i) (c.ackAt i) v
theorem ackF_len (c : Cfg) (l : List Int) (v : Int) : ∀ i : Nat, (ackF c l v i).length = l.length
  | 0 => rfl
  | i + 1 => (mput_length _ _ _).trans (ackF_len c l v i)
theorem ackAt_is {c : Cfg} (i : Int) (h0 : 0 ≤ i) (h1 : i < c.mu) : c.ackAt i = 6 + i := if_pos ⟨h0, h1⟩
theorem ackAt_ge (c : Cfg) (i : Int) : c.ackAt i = -1 ∨ 6 ≤ c.ackAt i := by
  unfold Cfg.ackAt; split <;> omega
theorem ackF_far (c : Cfg) (l : List Int) (v a : Int) (h0 : 0 ≤ a) (h1 : a < 6) : ∀ i : Nat, mld (ackF c l v i) a = mld l a
  | 0 => rfl
  | i + 1 => by
    have := ackAt_ge c i
    show mld (mput _ _ _) a = _
    rw [mld_mput_ne _ _ _ _ (by omega), ackF_far c l v a h0 h1 i]
theorem ackF_at {c : Cfg} {l : List Int} (hl : 6 + c.mu ≤ (l.length : Int)) (v : Int) : ∀ (i : Nat), (i : Int) ≤ c.mu → ∀ k : Int, 0 ≤ k → k < i → mld (ackF c l v i) (c.ackAt k) = v
  | 0, _, k, h0, h1 => by omega
  | i + 1, hi, k, h0, h1 => by
    show mld (mput (ackF c l v i) (c.ackAt i) v) (c.ackAt k) = v
    rw [ackAt_is (i : Int) (by omega) (by omega), ackAt_is k h0 (by omega)]
    by_cases e : k = i
    · subst e
      rw [mld_mput_same (by rw [ackF_len]; omega)]
    · rw [mld_mput_ne _ _ _ _ (by omega)]
      have := ackF_at hl v i (by omega) k h0 (by omega)
      rwa [ackAt_is k h0 (by omega)] at this

theorem pos_bd {c : Cfg} (hc : CfgOk c) {x : Dt} (h : DtOk c x) : 0 ≤ dtPos c x ∧ dtPos c x ≤ 10 + 3 * c.mu ∧ (x.doing ≠ 0 → 1 ≤ dtPos c x) := by
  obtain ⟨d, cy, t, ek, ea, eb⟩ := x
  obtain ⟨h1, h2, h3, h4, h5, h6⟩ := h
  have hmu := hc.mu
  dsimp only at h1 h2 h3 h4 h5 h6
  have hd : d = 0 ∨ d = 1 ∨ d = 2 ∨ d = 3 ∨ d = 4 ∨ d = 5 ∨ d = 6 ∨ d = 7 ∨ d = 8 ∨ d = 9 ∨ d = 10 ∨ d = 11 ∨ d = 12 ∨ d = 13 := by omega
  rcases hd with rfl | rfl | rfl | rfl | rfl | rfl | rfl | rfl | rfl | rfl | rfl | rfl | rfl | rfl <;> simp only [dtPos] <;> omega

/-- By how far it is one knows what it does. -/
theorem pos_doing {c : Cfg} (hc : CfgOk c) {x : Dt} (h : DtOk c x) (k : Nat) (hk : 7 ≤ k) (hp : dtPos c x = 3 + 3 * c.mu + (k : Int) - 6) : x.doing = k := by
  obtain ⟨d, cy, t, ek, ea, eb⟩ := x
  obtain ⟨h1, h2, h3, h4, h5, h6⟩ := h
  have hmu := hc.mu
  dsimp only at h1 h2 h3 h4 h5 h6
  show d = k
  have hd : d = 0 ∨ d = 1 ∨ d = 2 ∨ d = 3 ∨ d = 4 ∨ d = 5 ∨ d = 6 ∨ d = 7 ∨ d = 8 ∨ d = 9 ∨ d = 10 ∨ d = 11 ∨ d = 12 ∨ d = 13 := by omega
  rcases hd with rfl | rfl | rfl | rfl | rfl | rfl | rfl | rfl | rfl | rfl | rfl | rfl | rfl | rfl <;> simp only [dtPos] at hp <;> omega

theorem pos_lt12 {c : Cfg} {x : Dt} (hp : dtPos c x < 9 + 3 * c.mu) : x.doing ≠ 12 ∧ x.doing ≠ 13 := by
  obtain ⟨d, cy, t, ek, ea, eb⟩ := x
  constructor
  · rintro rfl
    simp only [dtPos] at hp; omega
  · rintro rfl
    simp only [dtPos] at hp; omega

end Go.Proofs.Ytgodnmcfbbchoaa
