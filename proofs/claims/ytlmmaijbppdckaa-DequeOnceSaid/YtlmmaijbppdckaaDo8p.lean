/- DequeOnce in plain Lean: one that pushes and pops, and two that steal, step by step. Conditions: the invariant's. -/
import Derived.Test.YtlmmaijbppdckaaDq8p
set_option linter.unusedVariables false
set_option linter.unusedSimpArgs false
namespace Go.Proofs.Ytlmmaijbppdckaa
open Go.ChangeShapes Go.WideShapes Go.ChangeAt Go.RowKit

/-- Memory: T are gone in front, q are there, h is what the owner has taken behind them but not read as yet; the bottom's word. -/
structure DM (n : Nat) (l : List Int) (T : Nat) (q h : List Int) (β : Int) (K : Nat) : Prop where
  n1 : 1 ≤ n
  n4 : n ≤ 4
  len : l.length = 2 + n
  top : mld l 0 = T
  bot : mld l 1 = wu β
  room : (q ++ h).length ≤ n
  item : ∀ (i : Nat) x, (q ++ h)[i]? = some x → mld l (2 + ((T : Int) + i) % n) = x
  wds : Wds l
  bd : T + (q ++ h).length ≤ K
  k9 : K ≤ 90

/-- The owner: what it does, and what it has. wd: words whose push is finished; w: words that were begun. -/
inductive OwnS (n : Nat) (l : List Int) (T : Nat) (q h hd : List Int) (β : Int) (wd w : Nat) : Option Dq → Prop
  | idle : h = [] → hd = [] → β = T + q.length → wd = w → OwnS n l T q h hd β wd w none
  | p1 (m : Dq) : m.st = 1 → m.w = w → h = [] → hd = [] → β = T + q.length → wd + 1 = w → OwnS n l T q h hd β wd w (some m)
  | p2 (m : Dq) : m.st = 2 → m.b = T + q.length → m.w = w → h = [] → hd = [] → β = T + q.length → wd + 1 = w → OwnS n l T q h hd β wd w (some m)
  | p3 (m : Dq) : m.st = 3 → m.b = T + q.length → q.length < n → m.w = w → h = [] → hd = [] → β = T + q.length → wd + 1 = w → OwnS n l T q h hd β wd w (some m)
  | p4 (m : Dq) : m.st = 4 → m.b = T + q.length → q.length < n → mld l (2 + ((T : Int) + q.length) % n) = w → h = [] → hd = [] → β = T + q.length → wd + 1 = w → OwnS n l T q h hd β wd w (some m)
  | o5 (m : Dq) : m.st = 5 → m.won = false → h = [] → hd = [] → β = T + q.length → wd = w → OwnS n l T q h hd β wd w (some m)
  | o6 (m : Dq) : m.st = 6 → m.won = false → m.b = wu ((T : Int) + q.length - 1) → h = [] → hd = [] → β = T + q.length → wd = w → OwnS n l T q h hd β wd w (some m)
  | o7 (m : Dq) : m.st = 7 → m.won = false → m.b = wu ((T : Int) + q.length - 1) → h = [] → hd = [] → β = (T : Int) + q.length - 1 → wd = w → OwnS n l T q h hd β wd w (some m)
  | o8a (m : Dq) (x : Int) : m.st = 8 → m.b = T + q.length → m.t < m.b → h = [x] → hd = [x] → β = T + q.length → wd = w → OwnS n l T q h hd β wd w (some m)
  | o8b (m : Dq) : m.st = 8 → m.b = m.t → h = [] → hd = [] → β = m.b → ((∃ x, q = [x] ∧ m.t = T) ∨ (q = [] ∧ m.t + 1 = T)) → wd = w → OwnS n l T q h hd β wd w (some m)
  | o9 (m : Dq) : m.st = 9 → m.b = m.t → h = [] → hd = [] → β = m.b → ((q = [m.w] ∧ m.t = T) ∨ (q = [] ∧ m.t + 1 = T)) → wd = w → OwnS n l T q h hd β wd w (some m)
  | o10 (m : Dq) : m.st = 10 → m.b = wu ((T : Int) - 1) → h = [] → q = [] → β = (T : Int) - 1 → hd = (if m.won = true then [m.w] else []) → wd = w → OwnS n l T q h hd β wd w (some m)

/-- A thief. -/
structure TOk (T : Nat) (q : List Int) (m : Dq) : Prop where
  ok : DqOk m
  st : m.st = 11 ∨ m.st = 12 ∨ m.st = 13 ∨ m.st = 14
  t12 : m.st ≠ 11 → m.t ≤ T
  t13 : m.st = 13 → m.t = T → q ≠ []
  t14 : m.st = 14 → m.t = T → q.head? = some m.w

theorem tok_0 (T : Nat) (q : List Int) : TOk T q dqSteal :=
  ⟨⟨by decide, by decide, by decide, by decide⟩, .inl rfl, fun h => absurd rfl h, (fun h => by cases h), (fun h => by cases h)⟩
theorem tok_up {T : Nat} {q : List Int} {m : Dq} (h : TOk T q m) (q' : List Int) : TOk (T + 1) q' m :=
  ⟨h.ok, h.st, fun a => by have := h.t12 a; omega, fun a b => by have := h.t12 (by omega); omega, fun a b => by have := h.t12 (by omega); omega⟩
/-- The front stays. -/
theorem tok_keep {T : Nat} {q q' : List Int} {m : Dq} (h : TOk T q m) (hq : ∀ x, q.head? = some x → q'.head? = some x) : TOk T q' m := by
  refine ⟨h.ok, h.st, h.t12, fun a b hn => ?_, fun a b => hq _ (h.t14 a b)⟩
  have := h.t13 a b
  cases q with
  | nil => exact this rfl
  | cons x q => have := hq x rfl; rw [hn] at this; cases this

theorem tok_any {T : Nat} {m : Dq} (h : TOk T [] m) (q' : List Int) : TOk T q' m :=
  tok_keep h (fun x hx => by cases hx)

theorem ahead_nat (x : Int) (t : Nat) (h0 : -1000 ≤ x) (h1 : x ≤ 1000) (h2 : t ≤ 1000) : wAhead (wu x) (t : Int) = x - t := by
  have := ahead_wu (t : Int) (x - t) (by omega) (by omega)
  rw [show (t : Int) + (x - t) = x by omega, show wu (t : Int) = t by rw [wu_eq]; omega] at this
  exact this
theorem wu_nat (t : Int) (h0 : 0 ≤ t) (h1 : t ≤ 1000) : wu t = t := by rw [wu_eq]; omega

theorem beta_le {n : Nat} {l : List Int} {T : Nat} {q h hd : List Int} {β : Int} {wd w : Nat} {o : Option Dq} (O : OwnS n l T q h hd β wd w o) : β ≤ T + q.length ∧ -1 ≤ β - T := by
  cases O with
  | o8b m a b c d e f g => rcases f with ⟨x, rfl, f⟩ | ⟨rfl, f⟩ <;> (simp only [List.length_cons, List.length_nil]; omega)
  | o9 m a b c d e f g => rcases f with ⟨rfl, f⟩ | ⟨rfl, f⟩ <;> (simp only [List.length_cons, List.length_nil]; omega)
  | o10 m a b c d e f g => subst d; simp only [List.length_nil]; omega
  | _ => omega

theorem mod_in8 {n : Nat} (h : 1 ≤ n) (x : Int) : 0 ≤ x % (n : Int) ∧ x % (n : Int) < n := ⟨Int.emod_nonneg _ (by omega), Int.emod_lt_of_pos _ (by omega)⟩

/-- What a thief's step comes to. -/
theorem th1_step {n : Nat} {l : List Int} {T : Nat} {q h hd : List Int} {β : Int} {wd w : Nat} {o : Option Dq} (D : DM n l T q h β wd) (O : OwnS n l T q h hd β wd w o) {m : Dq} (M : TOk T q m) :
    (∃ m', dqStep (en n) l m = (l, m') ∧ m'.st ≠ 0 ∧ TOk T q m') ∨
    (∃ m', dqStep (en n) l m = (l, m') ∧ m'.st = 0 ∧ m'.out ≠ 1 ∧ DqOk m') ∨
    (∃ l' m' x q', dqStep (en n) l m = (l', m') ∧ m'.st = 0 ∧ m'.out = 1 ∧ m'.w = x ∧ DqOk m' ∧ q = x :: q' ∧ DM n l' (T + 1) q' h β wd ∧ ∀ i, i ≠ 0 → mld l' i = mld l i) := by
  have hok := dq_ok (en n) D.wds M.ok
  obtain ⟨ok, hst, h12, h13, h14⟩ := M
  obtain ⟨st, b, t, x, oo, won⟩ := m
  obtain ⟨o1, o2, o3, o4⟩ := ok
  dsimp only at hst h12 h13 h14 o1 o2 o3 o4
  have hbd := D.bd
  have hk9 := D.k9
  have hβ := beta_le O
  rw [List.length_append] at hbd
  rcases hst with rfl | rfl | rfl | rfl
  · have e : dqStep (en n) l ⟨11, b, t, x, oo, won⟩ = (l, ⟨12, b, T, x, oo, won⟩) := by show (l, (⟨12, b, mld l 0, x, oo, won⟩ : Dq)) = _; rw [D.top]
    rw [e] at hok ⊢
    exact .inl ⟨_, rfl, by show (12 : Nat) ≠ 0; decide, ⟨hok.2, .inr (.inl rfl), fun _ => Int.le_refl _, (fun h => by cases h), (fun h => by cases h)⟩⟩
  · have ht := h12 (by decide)
    obtain ⟨tn, rfl⟩ := Int.eq_ofNat_of_zero_le o3.1
    have eA : wAhead (mld l 1) (tn : Int) = β - tn := by rw [D.bot]; exact ahead_nat _ _ (by omega) (by omega) (by omega)
    have e : dqStep (en n) l ⟨12, b, tn, x, oo, won⟩ = (l, dqPick (decide (β - (tn : Int) ≤ 0)) ⟨0, mld l 1, tn, x, 3, won⟩ ⟨13, mld l 1, tn, x, oo, won⟩) := by show (l, dqPick (decide (wAhead (mld l 1) tn ≤ 0)) ⟨0, mld l 1, tn, x, 3, won⟩ ⟨13, mld l 1, tn, x, oo, won⟩) = _; rw [eA]
    by_cases c : β - (tn : Int) ≤ 0
    · rw [show decide (β - (tn : Int) ≤ 0) = true by simpa using c] at e
      rw [e] at hok ⊢
      exact .inr (.inl ⟨_, rfl, rfl, by show (3 : Int) ≠ 1; decide, hok.2⟩)
    · rw [show decide (β - (tn : Int) ≤ 0) = false by simpa using (by omega : 0 < β - (tn : Int))] at e
      rw [e] at hok ⊢
      refine .inl ⟨_, rfl, by show (13 : Nat) ≠ 0; decide, ⟨hok.2, .inr (.inr (.inl rfl)), fun _ => ht, fun _ hT hn => ?_, (fun h => by cases h)⟩⟩
      have hT' : (tn : Int) = T := hT
      rw [hn] at hβ
      simp only [List.length_nil] at hβ
      omega
  · have ht := h12 (by decide)
    have e : dqStep (en n) l ⟨13, b, t, x, oo, won⟩ = (l, ⟨14, b, t, mld l (2 + t % (n : Int)), oo, won⟩) := by
      show (l, (⟨14, b, t, mld l (enAt (en n) t), oo, won⟩ : Dq)) = _
      rw [en_at D.n1]
    rw [e] at hok ⊢
    refine .inl ⟨_, rfl, by show (14 : Nat) ≠ 0; decide, ⟨hok.2, .inr (.inr (.inr rfl)), fun _ => ht, (fun h => by cases h), fun _ hT => ?_⟩⟩
    have hT' : t = T := hT
    subst hT'
    cases q with
    | nil => exact absurd rfl (h13 rfl rfl)
    | cons y q =>
      have := D.item 0 y rfl
      rw [show (T : Int) + ((0 : Nat) : Int) = T by omega] at this
      rw [this]; rfl
  · have ht := h12 (by decide)
    have hin : (0 : Int) ≤ 0 ∧ (0 : Int) < (l.length : Int) := by rw [D.len]; omega
    by_cases c : t = T
    · have hq := h14 rfl c
      subst c
      have hY := mswap_yes' hin (wu ((T : Int) + 1))
      rw [D.top] at hY
      have e : dqStep (en n) l ⟨14, b, T, x, oo, won⟩ = (mput l 0 ((T : Int) + 1), ⟨0, b, T, x, 1, won⟩) := by
        show (mswap l 0 T (wu ((T : Int) + 1)), dqPick (mswapped l 0 T) ⟨0, b, T, x, 1, won⟩ ⟨0, b, T, 0, 4, won⟩) = _
        rw [hY.1, hY.2, wu_nat _ (by omega) (by omega)]; rfl
      rw [e] at hok ⊢
      cases q with
      | nil => cases hq
      | cons y q' =>
        simp only [List.head?_cons, Option.some.injEq] at hq
        subst hq
        have hbd2 := D.bd
        have hrm := D.room
        simp only [List.length_append, List.length_cons, List.cons_append] at hbd2 hrm
        refine .inr (.inr ⟨_, _, y, q', rfl, rfl, rfl, rfl, hok.2, rfl, ⟨D.n1, D.n4, by rw [mput_length]; exact D.len, by rw [mld_mput_same hin]; omega, by rw [mld_mput_ne _ _ _ _ (by decide)]; exact D.bot, by rw [List.length_append]; omega, fun i z hz => ?_, hok.1, by rw [List.length_append]; omega, D.k9⟩, fun i hi => mld_mput_ne _ _ _ _ (by omega)⟩)
        have hm := mod_in8 D.n1 (((T + 1 : Nat) : Int) + i)
        rw [mld_mput_ne _ _ _ _ (by omega)]
        have := D.item (i + 1) z (by simpa using hz)
        rw [show ((T + 1 : Nat) : Int) + (i : Int) = (T : Int) + ((i + 1 : Nat) : Int) by omega]
        exact this
    · obtain ⟨n1, n2⟩ := mswap_no hin (by rw [D.top]; omega : ¬ mld l 0 = t) (wu (t + 1))
      have e : dqStep (en n) l ⟨14, b, t, x, oo, won⟩ = (l, ⟨0, b, t, 0, 4, won⟩) := by
        show (mswap l 0 t (wu (t + 1)), dqPick (mswapped l 0 t) ⟨0, b, t, x, 1, won⟩ ⟨0, b, t, 0, 4, won⟩) = _
        rw [n1, n2]; rfl
      rw [e] at hok ⊢
      exact .inr (.inl ⟨_, rfl, rfl, by show (4 : Int) ≠ 1; decide, hok.2⟩)

/-- The owner, when one in front is stolen. -/
theorem own_steal {n : Nat} {l l' : List Int} {T : Nat} {x : Int} {q h hd : List Int} {β : Int} {wd w : Nat} {o : Option Dq} (hn : 1 ≤ n) (O : OwnS n l T (x :: q) h hd β wd w o) (hl : ∀ i, i ≠ 0 → mld l' i = mld l i) : OwnS n l' (T + 1) q h hd β wd w o := by
  have e1 : (T : Int) + ((x :: q).length : Nat) = ((T + 1 : Nat) : Int) + (q.length : Nat) := by simp only [List.length_cons]; omega
  have e2 : ∀ k, (x :: q).length < k → q.length < k := fun k hk => by simp only [List.length_cons] at hk; omega
  cases O with
  | idle a b c d => exact .idle a b (by rw [c, e1]) d
  | p1 m a b c d e f => exact .p1 m a b c d (by rw [e, e1]) f
  | p2 m a b c d e f g => exact .p2 m a (by rw [b, e1]) c d e (by rw [f, e1]) g
  | p3 m a b c d e f g i => exact .p3 m a (by rw [b, e1]) (e2 _ c) d e f (by rw [g, e1]) i
  | p4 m a b c d e f g i =>
    have hm := mod_in8 hn ((T : Int) + ((x :: q).length : Nat))
    exact .p4 m a (by rw [b, e1]) (e2 _ c) (by rw [← e1, hl _ (by omega)]; exact d) e f (by rw [g, e1]) i
  | o5 m a b c d e f => exact .o5 m a b c d (by rw [e, e1]) f
  | o6 m a b c d e f g => exact .o6 m a b (by rw [c, e1]) d e (by rw [f, e1]) g
  | o7 m a b c d e f g => exact .o7 m a b (by rw [c, e1]) d e (by rw [f, e1]) g
  | o8a m y a b c d e f g => exact .o8a m y a (by rw [b, e1]) c d e (by rw [f, e1]) g
  | o8b m a b c d e f g =>
    refine .o8b m a b c d e ?_ g
    rcases f with ⟨y, f1, f2⟩ | ⟨f1, f2⟩
    · simp only [List.cons.injEq] at f1
      exact .inr ⟨f1.2, by omega⟩
    · cases f1
  | o9 m a b c d e f g =>
    refine .o9 m a b c d e ?_ g
    rcases f with ⟨f1, f2⟩ | ⟨f1, f2⟩
    · simp only [List.cons.injEq] at f1
      exact .inr ⟨f1.2, by omega⟩
    · cases f1
  | o10 m a b c d e f g => cases d

end Go.Proofs.Ytlmmaijbppdckaa
