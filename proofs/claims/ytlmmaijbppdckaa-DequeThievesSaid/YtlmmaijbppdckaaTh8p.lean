/- Three thieves at one deque, in plain Lean: what a step of one comes to, and that they come to an end. No program in sight. -/
import Derived.Test.YtlmmaijbppdckaaLaw8a
set_option linter.unusedVariables false
set_option linter.unusedSimpArgs false
namespace Go.Proofs.Ytlmmaijbppdckaa
open Go.ChangeShapes Go.WideShapes Go.ChangeAt Go.RowKit

/-- The numbers 1 to n. -/
def ups : Nat → List Int
  | 0 => []
  | n + 1 => ups n ++ [(n : Int) + 1]
theorem ups_len : ∀ n, (ups n).length = n
  | 0 => rfl
  | n + 1 => by simp [ups, ups_len n]
theorem ups_at : ∀ n i, i < n → (ups n)[i]? = some ((i : Int) + 1)
  | 0, i, h => by omega
  | n + 1, i, h => by
    by_cases q : i < n
    · show (ups n ++ [(n : Int) + 1])[i]? = _
      rw [List.getElem?_append_left (by rw [ups_len]; exact q), ups_at n i q]
    · obtain rfl : i = n := by omega
      show (ups i ++ [(i : Int) + 1])[i]? = _
      rw [List.getElem?_append_right (by rw [ups_len]; omega), ups_len]
      simp

/-- Memory: T of k entries are taken. -/
structure ThL (k T : Nat) (l : List Int) : Prop where
  len : l.length = 10
  top : mld l 0 = T
  bot : mld l 1 = k
  le : T ≤ k
  k7 : k ≤ 7
  item : ∀ i : Nat, i < k → mld l (2 + i) = (i : Int) + 1
  wds : Wds l

theorem thl_of {k : Nat} {l : List Int} (hk : k ≤ 7) (R : Rep 8 0 l 0 (ups k)) (hw : Wds l) : ThL k 0 l := by
  obtain ⟨h1, h2, h3, h4, h5⟩ := R
  rw [ups_len] at h3
  have e : ∀ x : Nat, x ≤ 8 → wu ((0 : Int) + ((0 : Nat) : Int) + (x : Int)) = x := fun x hx => by rw [wu_eq]; omega
  refine ⟨h1, ?_, by rw [h3, e k (by omega)], Nat.zero_le _, hk, fun i hi => ?_, hw⟩
  · rw [h2, wu_eq]; decide
  · have := h5 i _ (ups_at k i hi)
    rw [e i (by omega)] at this
    rw [← this]
    congr 1
    show 2 + (i : Int) = 2 + (i : Int) % 8
    omega

/-- A thief. -/
structure ThM (k T : Nat) (m : Dq) : Prop where
  ok : DqOk m
  st : m.st = 11 ∨ m.st = 12 ∨ m.st = 13 ∨ m.st = 14
  t12 : m.st ≠ 11 → m.t ≤ T
  t13 : (m.st = 13 ∨ m.st = 14) → m.t < k
  w14 : m.st = 14 → m.w = m.t + 1
theorem thm_0 (k T : Nat) : ThM k T dqSteal := ⟨steal_ok8, .inl rfl, fun h => absurd rfl h, (fun h => by rcases h with h | h <;> cases h), (fun h => by cases h)⟩
theorem thm_up {k T : Nat} {m : Dq} (h : ThM k T m) : ThM k (T + 1) m := ⟨h.ok, h.st, fun q => by have := h.t12 q; omega, h.t13, h.w14⟩

/-- How far a thief is from the end. -/
def pot (k T : Nat) (m : Dq) : Nat := 8 * (k - T) + (if m.st = 11 then 4 else if m.t = T then 15 - m.st else 19 - m.st)
theorem pot_0 (k T : Nat) : pot k T dqSteal = 8 * (k - T) + 4 := rfl
theorem pot_up {k T : Nat} {m : Dq} (h : ThM k T m) (hT : T < k) : pot k (T + 1) m ≤ pot k T m := by
  unfold pot
  have := h.st
  split <;> (try split) <;> (try split) <;> omega

theorem wAhead_small (x y : Int) (h0 : 0 ≤ x) (h1 : x ≤ 100) (h2 : 0 ≤ y) (h3 : y ≤ 100) : wAhead x y = x - y := by unfold wAhead wrap64; omega

theorem th_step {k T : Nat} {l : List Int} {m : Dq} (L : ThL k T l) (M : ThM k T m) :
    (∃ m', dqStep (en 8) l m = (l, m') ∧ m'.st ≠ 0 ∧ ThM k T m' ∧ (T < k → pot k T m' < pot k T m)) ∨
    (∃ m', dqStep (en 8) l m = (l, m') ∧ m'.st = 0 ∧ m'.out ≠ 1 ∧ DqOk m' ∧ (T < k → pot k T dqSteal < pot k T m)) ∨
    (∃ l' m', dqStep (en 8) l m = (l', m') ∧ m'.st = 0 ∧ m'.out = 1 ∧ m'.w = (T : Int) + 1 ∧ DqOk m' ∧ T < k ∧ ThL k (T + 1) l' ∧ pot k (T + 1) dqSteal < pot k T m) := by
  have hok := dq_ok (en 8) L.wds M.ok
  obtain ⟨ok, hst, h12, h13, h14⟩ := M
  obtain ⟨st, b, t, w, o, won⟩ := m
  obtain ⟨o1, o2, o3, o4⟩ := ok
  dsimp only at hst h12 h13 h14 o1 o2 o3 o4
  have le := L.le
  have k7 := L.k7
  rcases hst with rfl | rfl | rfl | rfl
  · have e : dqStep (en 8) l ⟨11, b, t, w, o, won⟩ = (l, ⟨12, b, T, w, o, won⟩) := by show (l, (⟨12, b, mld l 0, w, o, won⟩ : Dq)) = _; rw [L.top]
    rw [e] at hok ⊢
    exact .inl ⟨_, rfl, by show (12 : Nat) ≠ 0; decide, ⟨hok.2, .inr (.inl rfl), fun _ => Int.le_refl _, (fun h => by rcases h with h | h <;> cases h), (fun h => by cases h)⟩, fun _ => by show 8 * (k - T) + (if (12 : Nat) = 11 then 4 else if (T : Int) = T then 15 - 12 else 19 - 12) < 8 * (k - T) + 4; rw [if_neg (by decide), if_pos rfl]; omega⟩
  · have ht := h12 (by decide)
    have eA : wAhead (mld l 1) t = k - t := by rw [L.bot]; exact wAhead_small _ _ (by omega) (by omega) (by omega) (by omega)
    have e : dqStep (en 8) l ⟨12, b, t, w, o, won⟩ = (l, dqPick (decide ((k : Int) - t ≤ 0)) ⟨0, k, t, w, 3, won⟩ ⟨13, k, t, w, o, won⟩) := by show (l, dqPick (decide (wAhead (mld l 1) t ≤ 0)) ⟨0, mld l 1, t, w, 3, won⟩ ⟨13, mld l 1, t, w, o, won⟩) = _; rw [eA, L.bot]
    by_cases q : (k : Int) - t ≤ 0
    · rw [show decide ((k : Int) - t ≤ 0) = true by simpa using q] at e
      rw [e] at hok ⊢
      exact .inr (.inl ⟨_, rfl, rfl, by show (3 : Int) ≠ 1; decide, hok.2, fun h => by omega⟩)
    · rw [show decide ((k : Int) - t ≤ 0) = false by simpa using (by omega : 0 < (k : Int) - t)] at e
      rw [e] at hok ⊢
      refine .inl ⟨_, rfl, by show (13 : Nat) ≠ 0; decide, ⟨hok.2, .inr (.inr (.inl rfl)), fun _ => ht, fun _ => (by show t < (k : Int); omega), (fun h => by cases h)⟩, fun _ => ?_⟩
      show 8 * (k - T) + (if (13 : Nat) = 11 then 4 else if t = T then 15 - 13 else 19 - 13) < 8 * (k - T) + (if (12 : Nat) = 11 then 4 else if t = T then 15 - 12 else 19 - 12)
      rw [if_neg (show ¬ (13 : Nat) = 11 by decide), if_neg (show ¬ (12 : Nat) = 11 by decide)]
      split <;> omega
  · have ht := h12 (by decide)
    have htk := h13 (.inl rfl)
    obtain ⟨i, hi⟩ : ∃ i : Nat, t = (i : Int) := ⟨t.toNat, by omega⟩
    have e : dqStep (en 8) l ⟨13, b, t, w, o, won⟩ = (l, ⟨14, b, t, t + 1, o, won⟩) := by
      show (l, (⟨14, b, t, mld l (enAt (en 8) t), o, won⟩ : Dq)) = _
      rw [en_at (by decide), hi, show (2 : Int) + (i : Int) % ((8 : Nat) : Int) = 2 + i by omega, L.item i (by omega)]
    rw [e] at hok ⊢
    refine .inl ⟨_, rfl, by show (14 : Nat) ≠ 0; decide, ⟨hok.2, .inr (.inr (.inr rfl)), fun _ => ht, fun _ => htk, fun _ => rfl⟩, fun _ => ?_⟩
    show 8 * (k - T) + (if (14 : Nat) = 11 then 4 else if t = T then 15 - 14 else 19 - 14) < 8 * (k - T) + (if (13 : Nat) = 11 then 4 else if t = T then 15 - 13 else 19 - 13)
    rw [if_neg (show ¬ (14 : Nat) = 11 by decide), if_neg (show ¬ (13 : Nat) = 11 by decide)]
    split <;> omega
  · have ht := h12 (by decide)
    have htk := h13 (.inr rfl)
    have hw := h14 rfl
    have hin : (0 : Int) ≤ 0 ∧ (0 : Int) < (l.length : Int) := by rw [L.len]; omega
    by_cases q : t = T
    · have hY := mswap_yes' hin (wu (t + 1))
      rw [L.top, ← q] at hY
      have e : dqStep (en 8) l ⟨14, b, t, w, o, won⟩ = (mput l 0 (t + 1), ⟨0, b, t, w, 1, won⟩) := by
        show (mswap l 0 t (wu (t + 1)), dqPick (mswapped l 0 t) ⟨0, b, t, w, 1, won⟩ ⟨0, b, t, 0, 4, won⟩) = _
        rw [hY.1, hY.2, show wu (t + 1) = t + 1 by rw [wu_eq]; omega]; rfl
      rw [e] at hok ⊢
      refine .inr (.inr ⟨_, _, rfl, rfl, rfl, by show w = _; omega, hok.2, by omega, ⟨by rw [mput_length]; exact L.len, by rw [mld_mput_same hin]; omega, by rw [mld_mput_ne _ _ _ _ (by decide)]; exact L.bot, by omega, k7, fun j hj => by rw [mld_mput_ne _ _ _ _ (by omega)]; exact L.item j hj, hok.1⟩, ?_⟩)
      rw [pot_0]
      show _ < 8 * (k - T) + (if (14 : Nat) = 11 then 4 else if t = T then 15 - 14 else 19 - 14)
      rw [if_neg (by decide), if_pos q]
      omega
    · obtain ⟨n1, n2⟩ := mswap_no hin (by rw [L.top]; omega : ¬ mld l 0 = t) (wu (t + 1))
      have e : dqStep (en 8) l ⟨14, b, t, w, o, won⟩ = (l, ⟨0, b, t, 0, 4, won⟩) := by
        show (mswap l 0 t (wu (t + 1)), dqPick (mswapped l 0 t) ⟨0, b, t, w, 1, won⟩ ⟨0, b, t, 0, 4, won⟩) = _
        rw [n1, n2]; rfl
      rw [e] at hok ⊢
      refine .inr (.inl ⟨_, rfl, rfl, by show (4 : Int) ≠ 1; decide, hok.2, fun _ => ?_⟩)
      rw [pot_0]
      show _ < 8 * (k - T) + (if (14 : Nat) = 11 then 4 else if t = T then 15 - 14 else 19 - 14)
      rw [if_neg (by decide), if_neg q]
      omega

/-- Three thieves behind i rounds, of which np are picked. -/
structure Thv (k np i T : Nat) (l : List Int) (m0 m1 m2 : Dq) : Prop where
  l : ThL k T l
  a0 : ThM k T m0
  a1 : ThM k T m1
  a2 : ThM k T m2
  p : T = k ∨ pot k T m0 + ((i + 2) / 3 - (np + 2) / 3) ≤ 60

theorem thv_0 {k np : Nat} {l : List Int} (L : ThL k 0 l) : Thv k np 0 0 l dqSteal dqSteal dqSteal := ⟨L, thm_0 k 0, thm_0 k 0, thm_0 k 0, .inr (by rw [pot_0]; have := L.k7; omega)⟩

theorem thv_end {k np T : Nat} {l : List Int} {m0 m1 m2 : Dq} (I : Thv k np (np + 200) T l m0 m1 m2) : T = k ∧ mld l 0 = k ∧ mld l 1 = k := by
  have e : T = k := by
    rcases I.p with h | h
    · exact h
    · omega
  exact ⟨e, by rw [I.l.top, e], I.l.bot⟩

/-- What a step of one thief comes to. -/
def Out3 (k T : Nat) (l : List Int) (m : Dq) (P : Nat → List Int → Dq → Prop) : Prop :=
  (∃ m', dqStep (en 8) l m = (l, m') ∧ m'.st ≠ 0 ∧ P T l m') ∨
  (∃ m', dqStep (en 8) l m = (l, m') ∧ m'.st = 0 ∧ m'.out ≠ 1 ∧ P T l dqSteal) ∨
  (∃ l' m', dqStep (en 8) l m = (l', m') ∧ m'.st = 0 ∧ m'.out = 1 ∧ m'.w = (T : Int) + 1 ∧ T < k ∧ P (T + 1) l' dqSteal)

theorem thv_step0 {k np i T : Nat} {l : List Int} {m0 m1 m2 : Dq} (I : Thv k np i T l m0 m1 m2) : Out3 k T l m0 fun T' l' m' => Thv k np (i + 1) T' l' m' m1 m2 := by
  obtain ⟨L, M0, M1, M2, P⟩ := I
  have le := L.le
  rcases th_step L M0 with ⟨m', e, h, hm, hp⟩ | ⟨m', e, h, h2, ho, hp⟩ | ⟨l', m', e, h, h2, h3, ho, hT, hL, hp⟩
  · exact .inl ⟨m', e, h, L, hm, M1, M2, by rcases P with q | q; · exact .inl q
                                            · by_cases hT : T < k
                                              · have := hp hT; right; omega
                                              · left; omega⟩
  · exact .inr (.inl ⟨m', e, h, h2, L, thm_0 _ _, M1, M2, by rcases P with q | q; · exact .inl q
                                                             · by_cases hT : T < k
                                                               · have := hp hT; right; omega
                                                               · left; omega⟩)
  · exact .inr (.inr ⟨l', m', e, h, h2, h3, hT, hL, thm_0 _ _, thm_up M1, thm_up M2, by rcases P with q | q; · omega
                                                                                        · right; omega⟩)

theorem thv_step1 {k np i T : Nat} {l : List Int} {m0 m1 m2 : Dq} (I : Thv k np i T l m0 m1 m2) (hz : np ≤ i → i % 3 ≠ 0) : Out3 k T l m1 fun T' l' m' => Thv k np (i + 1) T' l' m0 m' m2 := by
  obtain ⟨L, M0, M1, M2, P⟩ := I
  have le := L.le
  have hi : (i + 1 + 2) / 3 - (np + 2) / 3 = (i + 2) / 3 - (np + 2) / 3 := by
    by_cases q : np ≤ i
    · have := hz q; omega
    · omega
  rcases th_step L M1 with ⟨m', e, h, hm, hp⟩ | ⟨m', e, h, h2, ho, hp⟩ | ⟨l', m', e, h, h2, h3, ho, hT, hL, hp⟩
  · exact .inl ⟨m', e, h, L, M0, hm, M2, by rw [hi]; exact P⟩
  · exact .inr (.inl ⟨m', e, h, h2, L, M0, thm_0 _ _, M2, by rw [hi]; exact P⟩)
  · have := pot_up M0 hT
    exact .inr (.inr ⟨l', m', e, h, h2, h3, hT, hL, thm_up M0, thm_0 _ _, thm_up M2, by rw [hi]; right; rcases P with q | q <;> omega⟩)

theorem thv_step2 {k np i T : Nat} {l : List Int} {m0 m1 m2 : Dq} (I : Thv k np i T l m0 m1 m2) (hz : np ≤ i → i % 3 ≠ 0) : Out3 k T l m2 fun T' l' m' => Thv k np (i + 1) T' l' m0 m1 m' := by
  obtain ⟨L, M0, M1, M2, P⟩ := I
  have le := L.le
  have hi : (i + 1 + 2) / 3 - (np + 2) / 3 = (i + 2) / 3 - (np + 2) / 3 := by
    by_cases q : np ≤ i
    · have := hz q; omega
    · omega
  rcases th_step L M2 with ⟨m', e, h, hm, hp⟩ | ⟨m', e, h, h2, ho, hp⟩ | ⟨l', m', e, h, h2, h3, ho, hT, hL, hp⟩
  · exact .inl ⟨m', e, h, L, M0, M1, hm, by rw [hi]; exact P⟩
  · exact .inr (.inl ⟨m', e, h, h2, L, M0, M1, thm_0 _ _, by rw [hi]; exact P⟩)
  · have := pot_up M0 hT
    exact .inr (.inr ⟨l', m', e, h, h2, h3, hT, hL, thm_up M0, thm_up M1, thm_0 _ _, by rw [hi]; right; rcases P with q | q <;> omega⟩)

end Go.Proofs.Ytlmmaijbppdckaa
