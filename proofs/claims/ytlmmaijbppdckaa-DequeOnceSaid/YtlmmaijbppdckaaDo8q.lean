/- DequeOnce in plain Lean: a step of the owner, and the account of words. Conditions: the invariant's. -/
import Derived.Test.YtlmmaijbppdckaaDo8p
set_option linter.unusedVariables false
set_option linter.unusedSimpArgs false
namespace Go.Proofs.Ytlmmaijbppdckaa
open Go.ChangeShapes Go.WideShapes Go.ChangeAt Go.RowKit

/-- What the owner's step does to the words: nothing; the last one of some is taken; the only one is. -/
inductive Tk (T : Nat) (q hd : List Int) : Nat → List Int → List Int → Prop
  | same : Tk T q hd T q hd
  | last (p : List Int) (x : Int) : q = p ++ [x] → p ≠ [] → hd = [] → Tk T q hd T p [x]
  | only (x : Int) : q = [x] → hd = [] → Tk T q hd (T + 1) [] [x]

/-- What the owner's step comes to. -/
inductive OEnd (n : Nat) (l : List Int) (T : Nat) (q h hd : List Int) (wd w : Nat) (l' : List Int) (m' : Dq) : Prop
  | on (T' : Nat) (q' h' hd' : List Int) (β' : Int) : m'.st ≠ 0 → DM n l' T' q' h' β' wd → OwnS n l' T' q' h' hd' β' wd w (some m') → Tk T q hd T' q' hd' → OEnd n l T q h hd wd w l' m'
  | pushed : m'.st = 0 → m'.out = 1 → m'.w = 0 → hd = [] → wd + 1 = w → DM n l' T (q ++ [(w : Int)]) [] ((T : Int) + (q ++ [(w : Int)]).length) w → OEnd n l T q h hd wd w l' m'
  | full : m'.st = 0 → m'.out = 2 → hd = [] → wd + 1 = w → DM n l' T q [] ((T : Int) + q.length) w → OEnd n l T q h hd wd w l' m'
  | popped (y : Int) : m'.st = 0 → m'.out = 1 → m'.w = y → hd = [y] → wd = w → DM n l' T q [] ((T : Int) + q.length) w → OEnd n l T q h hd wd w l' m'
  | none : m'.st = 0 → m'.out = 3 → hd = [] → wd = w → DM n l' T q [] ((T : Int) + q.length) w → OEnd n l T q h hd wd w l' m'

theorem dm_bot {n : Nat} {l : List Int} {T : Nat} {q h : List Int} {β : Int} {K : Nat} (D : DM n l T q h β K) (β' : Int) : DM n (mput l 1 (wu β')) T q h β' K := by
  have hin : (0 : Int) ≤ 1 ∧ (1 : Int) < (l.length : Int) := by rw [D.len]; omega
  refine ⟨D.n1, D.n4, by rw [mput_length]; exact D.len, by rw [mld_mput_ne _ _ _ _ (by decide)]; exact D.top, by rw [mld_mput_same hin], D.room, fun i x hx => ?_, wds_mput D.wds _ _ (wu_bd _), D.bd, D.k9⟩
  have hm := mod_in8 D.n1 ((T : Int) + i)
  rw [mld_mput_ne _ _ _ _ (by omega)]
  exact D.item i x hx

theorem concat_of_ne {q : List Int} (h : q ≠ []) : ∃ p x, q = p ++ [x] := by
  rcases List.eq_nil_or_concat q with e | ⟨p, y, e⟩
  · exact absurd e h
  · exact ⟨p, y, by rw [e, List.concat_eq_append]⟩

theorem own_step {n : Nat} {l : List Int} {T : Nat} {q h hd : List Int} {β : Int} {wd w : Nat} (D : DM n l T q h β wd) (hw : w ≤ 90) {m : Dq} (ok : DqOk m) (O : OwnS n l T q h hd β wd w (some m)) :
    OEnd n l T q h hd wd w (dqStep (en n) l m).1 (dqStep (en n) l m).2 := by
  have hok := dq_ok (en n) D.wds ok
  have hbd := D.bd
  have hk9 := D.k9
  have n4 := D.n4
  have n1 := D.n1
  obtain ⟨st, b, t, x, oo, won⟩ := m
  have hin0 : (0 : Int) ≤ 0 ∧ (0 : Int) < (l.length : Int) := by rw [D.len]; omega
  have hin1 : (0 : Int) ≤ 1 ∧ (1 : Int) < (l.length : Int) := by rw [D.len]; omega
  cases O with
  | p1 _ a b' c d e f =>
    dsimp only at a b'
    subst a c d
    rw [List.append_nil] at hbd
    have e : dqStep (en n) l ⟨1, b, t, x, oo, won⟩ = (l, ⟨2, (T : Int) + q.length, t, x, oo, won⟩) := by
      show (l, (⟨2, mld l 1, t, x, oo, won⟩ : Dq)) = _
      rw [D.bot, e, wu_nat _ (by omega) (by omega)]
    rw [e]
    exact .on T q [] [] _ (by show (2 : Nat) ≠ 0; decide) D (.p2 _ rfl rfl b' rfl rfl (by assumption) f) .same
  | p2 _ a b' c d e f g =>
    dsimp only at a b' c
    subst a b' d e
    rw [List.append_nil] at hbd
    have eA : wAhead ((T : Int) + q.length) (mld l 0) = q.length := by
      have := ahead_nat ((T : Int) + q.length) T (by omega) (by omega) (by omega)
      rw [wu_nat _ (by omega) (by omega)] at this
      rw [D.top, this]; omega
    have e : dqStep (en n) l ⟨2, (T : Int) + q.length, t, x, oo, won⟩ = (l, dqPick (decide ((n : Int) ≤ q.length)) ⟨0, (T : Int) + q.length, mld l 0, 0, 2, won⟩ ⟨3, (T : Int) + q.length, mld l 0, x, oo, won⟩) := by
      show (l, dqPick (decide (enRoom (en n) ≤ wAhead ((T : Int) + q.length) (mld l 0))) _ _) = _
      rw [eA, en_room n1]; rfl
    rw [e]
    by_cases cq : (n : Int) ≤ q.length
    · rw [show decide ((n : Int) ≤ q.length) = true by simpa using cq]
      exact .full rfl rfl rfl g ⟨D.n1, D.n4, D.len, D.top, by rw [D.bot, f], D.room, D.item, D.wds, by have := D.bd; omega, hw⟩
    · rw [show decide ((n : Int) ≤ q.length) = false by simpa using cq]
      exact .on T q [] [] _ (by show (3 : Nat) ≠ 0; decide) D (.p3 _ rfl rfl (by omega) c rfl rfl f g) .same
  | p3 _ a b' c d e f g i =>
    dsimp only at a b' d
    subst a b' e f
    rw [List.append_nil] at hbd
    have hm := mod_in8 n1 ((T : Int) + q.length)
    have e : dqStep (en n) l ⟨3, (T : Int) + q.length, t, x, oo, won⟩ = (mput l (2 + ((T : Int) + q.length) % n) x, ⟨4, (T : Int) + q.length, t, x, oo, won⟩) := by
      show (mput l (enAt (en n) ((T : Int) + q.length)) x, _) = _
      rw [en_at n1]
    rw [e] at hok ⊢
    refine .on T q [] [] _ (by show (4 : Nat) ≠ 0; decide) ⟨n1, n4, by rw [mput_length]; exact D.len, by rw [mld_mput_ne _ _ _ _ (by omega)]; exact D.top, by rw [mld_mput_ne _ _ _ _ (by omega)]; exact D.bot, D.room, fun i z hz => ?_, hok.1, D.bd, D.k9⟩ (.p4 _ rfl rfl c ?_ rfl rfl g i) .same
    · have hz' := hz
      rw [List.append_nil] at hz'
      have hi := (List.getElem?_eq_some_iff.1 hz').1
      have hne := mod_ne (n := n) (T : Int) i q.length hi (by omega)
      rw [mld_mput_ne _ _ _ _ (by omega)]
      exact D.item i z hz
    · rw [mld_mput_same (by rw [D.len]; omega)]; exact d
  | p4 _ a b' c d e f g i =>
    dsimp only at a b'
    subst a b' e f
    rw [List.append_nil] at hbd
    have e : dqStep (en n) l ⟨4, (T : Int) + q.length, t, x, oo, won⟩ = (mput l 1 (wu ((T : Int) + q.length + 1)), ⟨0, (T : Int) + q.length, t, 0, 1, won⟩) := rfl
    rw [e] at hok ⊢
    refine .pushed rfl rfl rfl rfl i ⟨n1, n4, by rw [mput_length]; exact D.len, by rw [mld_mput_ne _ _ _ _ (by decide)]; exact D.top, ?_, by simp; omega, fun j z hz => ?_, hok.1, by simp; omega, hw⟩
    · rw [mld_mput_same hin1]; congr 1; simp; omega
    · rw [List.append_nil] at hz
      have hm := mod_in8 n1 ((T : Int) + j)
      rw [mld_mput_ne _ _ _ _ (by omega)]
      rcases Nat.lt_or_ge j q.length with r | r
      · rw [List.getElem?_append_left r] at hz
        exact D.item j z (by rw [List.append_nil]; exact hz)
      · rw [List.getElem?_append_right r] at hz
        obtain ⟨r2, r3⟩ := List.getElem?_eq_some_iff.1 hz
        have ej : j = q.length := by simp at r2; omega
        subst ej
        simp at hz
        subst hz
        exact d
  | o5 _ a b' c d e f =>
    dsimp only at a b'
    subst a b' c d
    rw [List.append_nil] at hbd
    have e : dqStep (en n) l ⟨5, b, t, x, oo, false⟩ = (l, ⟨6, wu ((T : Int) + q.length - 1), t, x, oo, false⟩) := by
      show (l, (⟨6, wu (mld l 1 - 1), t, x, oo, false⟩ : Dq)) = _
      rw [D.bot, e, wu_sub]
    rw [e]
    exact .on T q [] [] _ (by show (6 : Nat) ≠ 0; decide) D (.o6 _ rfl rfl rfl rfl rfl (by assumption) f) .same
  | o6 _ a b' c d e f g =>
    dsimp only at a b' c
    subst a b' c d e
    have e : dqStep (en n) l ⟨6, wu ((T : Int) + q.length - 1), t, x, oo, false⟩ = (mput l 1 (wu ((T : Int) + q.length - 1)), ⟨7, wu ((T : Int) + q.length - 1), t, x, oo, false⟩) := rfl
    rw [e]
    exact .on T q [] [] _ (by show (7 : Nat) ≠ 0; decide) (dm_bot D _) (.o7 _ rfl rfl rfl rfl rfl rfl g) .same
  | o7 _ a b' c d e f g =>
    dsimp only at a b' c
    subst a b' c d e f
    rw [List.append_nil] at hbd
    have eA : wAhead (mld l 0) (wu ((T : Int) + q.length - 1)) = 1 - (q.length : Int) := by
      have := ahead_wu ((T : Int) + q.length - 1) (1 - q.length) (by omega) (by omega)
      rw [show (T : Int) + q.length - 1 + (1 - q.length) = T by omega, wu_nat _ (by omega) (by omega)] at this
      rw [D.top]; exact this
    have e : dqStep (en n) l ⟨7, wu ((T : Int) + q.length - 1), t, x, oo, false⟩ = (l, ⟨bif decide (0 < 1 - (q.length : Int)) then 10 else 8, wu ((T : Int) + q.length - 1), T, x, oo, false⟩) := by
      show (l, (⟨bif decide (0 < wAhead (mld l 0) (wu ((T : Int) + q.length - 1))) then 10 else 8, wu ((T : Int) + q.length - 1), mld l 0, x, oo, false⟩ : Dq)) = _
      rw [eA, D.top]
    rw [e] at hok ⊢
    by_cases hq0 : q = []
    · subst hq0
      refine .on T [] [] [] _ (by show (10 : Nat) ≠ 0; decide) D (.o10 _ rfl ?_ rfl rfl (by simp) rfl g) .same
      show wu ((T : Int) + (0 : Nat) - 1) = wu ((T : Int) - 1)
      congr 1 <;> omega
    · obtain ⟨p, y, rfl⟩ := concat_of_ne hq0
      have hlp : ((p ++ [y]).length : Int) = p.length + 1 := by simp
      rw [show decide (0 < 1 - ((p ++ [y]).length : Int)) = false by rw [hlp]; simp; omega]
      have eb : wu ((T : Int) + (p ++ [y]).length - 1) = (T : Int) + p.length := by rw [hlp]; rw [wu_nat _ (by omega) (by omega)]; omega
      rw [eb] at hok ⊢
      by_cases hp0 : p = []
      · subst hp0
        refine .on T [y] [] [] _ (by show (8 : Nat) ≠ 0; decide) D (.o8b _ rfl (by simp) rfl rfl (by simp) (.inl ⟨y, rfl, rfl⟩) g) .same
      · have hpl : 0 < p.length := List.length_pos_iff.2 hp0
        have D2 : DM n l T p [y] ((T : Int) + p.length) wd := ⟨n1, n4, D.len, D.top, by rw [D.bot]; congr 1; rw [hlp]; omega, by have := D.room; simpa using this, fun i z hz => D.item i z (by simpa using hz), D.wds, by have := D.bd; simpa using this, D.k9⟩
        exact .on T p [y] [y] _ (by show (8 : Nat) ≠ 0; decide) D2 (.o8a _ y rfl rfl (by show (T : Int) < (T : Int) + p.length; omega) rfl rfl rfl g) (.last p y rfl hp0 rfl)
  | o8a _ y a b' c d e f g =>
    dsimp only at a b' c
    subst a b' d e
    simp only [List.length_append, List.length_singleton] at hbd
    obtain ⟨tn, rfl⟩ := Int.eq_ofNat_of_zero_le ok.t.1
    have eA : wAhead ((T : Int) + q.length) (tn : Int) = (T : Int) + q.length - tn := by
      have := ahead_nat ((T : Int) + q.length) tn (by omega) (by omega) (by omega)
      rw [wu_nat _ (by omega) (by omega)] at this
      exact this
    have hy := D.item q.length y (by simp)
    have e : dqStep (en n) l ⟨8, (T : Int) + q.length, tn, x, oo, won⟩ = (l, ⟨0, (T : Int) + q.length, tn, y, 1, won⟩) := by
      show (l, dqPick (decide (0 < wAhead ((T : Int) + q.length) tn)) ⟨0, (T : Int) + q.length, tn, mld l (enAt (en n) ((T : Int) + q.length)), 1, won⟩ ⟨9, (T : Int) + q.length, tn, mld l (enAt (en n) ((T : Int) + q.length)), oo, won⟩) = _
      rw [eA, en_at n1, hy, show decide (0 < (T : Int) + q.length - tn) = true by simp; omega]; rfl
    rw [e]
    exact .popped y rfl rfl rfl rfl g ⟨n1, n4, D.len, D.top, by rw [D.bot, f], by have := D.room; simp at this ⊢; omega, fun i z hz => D.item i z (by rw [List.append_nil] at hz; rw [List.getElem?_append_left (List.getElem?_eq_some_iff.1 hz).1]; exact hz), D.wds, by simp; omega, hw⟩
  | o8b _ a b' c d e f g =>
    dsimp only at a b' e f
    subst a b' c d e
    obtain ⟨bn, rfl⟩ := Int.eq_ofNat_of_zero_le ok.t.1
    have hb2 : (bn : Int) ≤ 1000 := by rcases f with ⟨y, _, f⟩ | ⟨_, f⟩ <;> omega
    have eA : wAhead (bn : Int) (bn : Int) = 0 := by
      have := ahead_nat (bn : Int) bn (by omega) (by omega) (by omega)
      rw [wu_nat _ (by omega) (by omega)] at this
      omega
    have e : dqStep (en n) l ⟨8, bn, bn, x, oo, won⟩ = (l, ⟨9, bn, bn, mld l (2 + (bn : Int) % n), oo, won⟩) := by
      show (l, dqPick (decide (0 < wAhead (bn : Int) bn)) ⟨0, bn, bn, mld l (enAt (en n) bn), 1, won⟩ ⟨9, bn, bn, mld l (enAt (en n) bn), oo, won⟩) = _
      rw [eA, en_at n1]; rfl
    rw [e]
    refine .on T q [] [] _ (by show (9 : Nat) ≠ 0; decide) D (.o9 _ rfl rfl rfl rfl rfl ?_ g) .same
    rcases f with ⟨y, rfl, f⟩ | ⟨rfl, f⟩
    · refine .inl ⟨?_, f⟩
      have hy := D.item 0 y rfl
      dsimp only
      rw [f, show (T : Int) = (T : Int) + ((0 : Nat) : Int) by omega, hy]
    · exact .inr ⟨rfl, f⟩
  | o9 _ a b' c d e f g =>
    dsimp only at a b' e f
    subst a b' c d e
    rcases f with ⟨rfl, rfl⟩ | ⟨rfl, f⟩
    · have hY := mswap_yes' hin0 (wu ((T : Int) + 1))
      rw [D.top] at hY
      have e : dqStep (en n) l ⟨9, T, T, x, oo, won⟩ = (mput l 0 ((T : Int) + 1), ⟨10, T, T, x, oo, true⟩) := by
        show (mswap l 0 T (wu ((T : Int) + 1)), (⟨10, T, T, x, oo, mswapped l 0 T⟩ : Dq)) = _
        rw [hY.1, hY.2, wu_nat _ (by omega) (by omega)]
      rw [e] at hok ⊢
      refine .on (T + 1) [] [] [x] _ (by show (10 : Nat) ≠ 0; decide) ⟨n1, n4, by rw [mput_length]; exact D.len, by rw [mld_mput_same hin0]; omega, by rw [mld_mput_ne _ _ _ _ (by decide)]; exact D.bot, by simp, (fun i z hz => by simp at hz), hok.1, by simp at hbd ⊢; omega, D.k9⟩ (.o10 _ rfl ?_ rfl rfl ?_ rfl g) (.only x rfl rfl)
      · show (T : Int) = wu (((T + 1 : Nat) : Int) - 1)
        rw [wu_nat _ (by omega) (by simp at hbd; omega)]; omega
      · omega
    · have hbd' : T ≤ 100 := by simp at hbd; omega
      have hne : ¬ mld l 0 = β := by rw [D.top]; omega
      obtain ⟨s1, s2⟩ := mswap_no hin0 hne (wu (β + 1))
      have e : dqStep (en n) l ⟨9, β, β, x, oo, won⟩ = (l, ⟨10, β, β, x, oo, false⟩) := by
        show (mswap l 0 β (wu (β + 1)), (⟨10, β, β, x, oo, mswapped l 0 β⟩ : Dq)) = _
        rw [s1, s2]
      rw [e]
      have h0 := ok.b.1
      dsimp only at h0
      refine .on T [] [] [] _ (by show (10 : Nat) ≠ 0; decide) D (.o10 _ rfl ?_ rfl rfl (by omega) rfl g) .same
      show β = wu ((T : Int) - 1)
      rw [wu_nat _ (by omega) (by omega)]; omega
  | o10 _ a b' c d e f g =>
    dsimp only at a b' f
    subst a b' c d e
    have hbd' : T ≤ 100 := by simp at hbd; omega
    have ew : wu (wu ((T : Int) - 1) + 1) = wu (T : Int) := by rw [wu_add]; congr 1 <;> omega
    have e : dqStep (en n) l ⟨10, wu ((T : Int) - 1), t, x, oo, won⟩ = (mput l 1 (wu (T : Int)), dqPick won ⟨0, wu ((T : Int) - 1), t, x, 1, won⟩ ⟨0, wu ((T : Int) - 1), t, 0, 3, won⟩) := by
      show (mput l 1 (wu (wu ((T : Int) - 1) + 1)), _) = _
      rw [ew]
    rw [e]
    have D2 : DM n (mput l 1 (wu (T : Int))) T [] [] ((T : Int) + (([] : List Int).length : Nat)) w := by
      have := dm_bot D (T : Int)
      rw [show (T : Int) + (([] : List Int).length : Nat) = T by simp, ← g]
      exact this
    cases won with
    | true => exact .popped x rfl rfl rfl (by rw [f]; rfl) g D2
    | false => exact .none rfl rfl (by rw [f]; rfl) g D2

/-- A thief, when the owner has done a step. -/
theorem tok_tk {T T' : Nat} {q hd q' hd' : List Int} {m : Dq} (K : Tk T q hd T' q' hd') (h : TOk T q m) : TOk T' q' m := by
  cases K with
  | same => exact h
  | last p x a b c =>
    subst a
    refine tok_keep h fun y hy => ?_
    cases q' with
    | nil => exact absurd rfl b
    | cons z p => simpa using hy
  | only x a b => exact tok_up h _

/-! The account. -/

/-- N words at most; C: those that are there, in order; hd: those that the owner has taken and not told as yet. -/
structure Acc (N : Nat) (C hd : List Int) (wd : Nat) (last : Int) (pu : List Bool) (ta : List Int) : Prop where
  lp : pu.length = N
  lt : ta.length = N
  inc : C.Pairwise (· < ·)
  low : ∀ x ∈ C, last < x
  rng : ∀ x ∈ C ++ hd, 1 ≤ x ∧ x ≤ wd
  wN : wd < N
  lb : 0 ≤ last ∧ last ≤ wd
  nd : (C ++ hd).Nodup
  fl : ∀ y : Nat, 1 ≤ y → y < N → (ta[y]? = some 0 ∨ ta[y]? = some 1) ∧ (pu[y]? = some true ↔ ((y : Int) ∈ C ++ hd ∨ ta[y]? = some 1)) ∧ ((y : Int) ∈ C ++ hd → ta[y]? = some 0) ∧ (wd < y → ta[y]? = some 0)

theorem acc_tk {N : Nat} {T T' : Nat} {q hd q' hd' : List Int} {wd : Nat} {last : Int} {pu : List Bool} {ta : List Int} (K : Tk T q hd T' q' hd') (A : Acc N q hd wd last pu ta) : Acc N q' hd' wd last pu ta := by
  cases K with
  | same => exact A
  | last p x a b c =>
    subst a c
    have e : ∀ y : Int, y ∈ q' ++ [x] ↔ y ∈ (q' ++ [x]) ++ [] := fun y => by rw [List.append_nil]
    refine ⟨A.lp, A.lt, (List.pairwise_append.1 A.inc).1, fun y hy => A.low y (List.mem_append_left _ hy), fun y hy => A.rng y ((e y).1 hy), A.wN, A.lb, by have := A.nd; rwa [List.append_nil] at this, fun y h1 h2 => ?_⟩
    obtain ⟨f1, f2, f3, f4⟩ := A.fl y h1 h2
    exact ⟨f1, f2.trans (or_congr_left (e y).symm), fun h => f3 ((e y).1 h), f4⟩
  | only x a b =>
    subst a b
    have e : ∀ y : Int, y ∈ ([] : List Int) ++ [x] ↔ y ∈ [x] ++ ([] : List Int) := fun y => by simp
    refine ⟨A.lp, A.lt, List.Pairwise.nil, (fun y hy => by simp at hy), fun y hy => A.rng y ((e y).1 hy), A.wN, A.lb, by simp, fun y h1 h2 => ?_⟩
    obtain ⟨f1, f2, f3, f4⟩ := A.fl y h1 h2
    exact ⟨f1, f2.trans (or_congr_left (e y).symm), fun h => f3 ((e y).1 h), f4⟩

/-- A word is told that was taken. -/
theorem acc_take {N : Nat} {C hd C' hd' : List Int} {wd : Nat} {last last' : Int} {pu : List Bool} {ta : List Int} {x : Int} (A : Acc N C hd wd last pu ta) (hx : ∀ y : Int, y ∈ C ++ hd ↔ (y = x ∨ y ∈ C' ++ hd')) (hn : x ∉ C' ++ hd') (hi : C'.Pairwise (· < ·)) (hl : ∀ y ∈ C', last' < y) (hb : 0 ≤ last' ∧ last' ≤ wd) (nd : (C' ++ hd').Nodup) :
    (1 ≤ x ∧ x ≤ wd) ∧ ta[x.toNat]? = some 0 ∧ Acc N C' hd' wd last' pu (ta.set x.toNat 1) := by
  have hr := A.rng x ((hx x).2 (.inl rfl))
  have hN := A.wN
  have hxn : ((x.toNat : Nat) : Int) = x := by omega
  obtain ⟨g1, g2, g3, g4⟩ := A.fl x.toNat (by omega) (by omega)
  have h0 : ta[x.toNat]? = some 0 := g3 (by rw [hxn]; exact (hx x).2 (.inl rfl))
  refine ⟨hr, h0, A.lp, by rw [List.length_set]; exact A.lt, hi, hl, fun y hy => A.rng y ((hx y).2 (.inr hy)), A.wN, hb, nd, fun y h1 h2 => ?_⟩
  obtain ⟨f1, f2, f3, f4⟩ := A.fl y h1 h2
  by_cases e : x.toNat = y
  · subst e
    have hs : (ta.set x.toNat 1)[x.toNat]? = some 1 := by rw [List.getElem?_set_self (by rw [A.lt]; omega)]
    refine ⟨.inr hs, ?_, fun h => ?_, fun h => by omega⟩
    · rw [f2, hs, hxn]
      exact ⟨fun _ => .inr rfl, fun _ => .inl ((hx x).2 (.inl rfl))⟩
    · rw [hxn] at h; exact absurd h hn
  · rw [List.getElem?_set_ne e]
    have hne : (y : Int) ≠ x := by omega
    refine ⟨f1, ?_, fun h => f3 ((hx y).2 (.inr h)), f4⟩
    rw [f2, hx y]
    simp [hne]

/-- The owner tells its word. -/
theorem acc_popped {N : Nat} {C : List Int} {wd : Nat} {last : Int} {pu : List Bool} {ta : List Int} {y : Int} (A : Acc N C [y] wd last pu ta) : (1 ≤ y ∧ y ≤ wd) ∧ ta[y.toNat]? = some 0 ∧ Acc N C [] wd last pu (ta.set y.toNat 1) := by
  have h := List.nodup_append.1 A.nd
  refine acc_take A (fun z => by simp [or_comm]) (fun hm => ?_) A.inc A.low A.lb (by rw [List.append_nil]; exact h.1)
  rw [List.append_nil] at hm
  exact h.2.2 y hm y (by simp) rfl

/-- A thief tells its word. -/
theorem acc_stolen {N : Nat} {q hd : List Int} {wd : Nat} {last : Int} {pu : List Bool} {ta : List Int} {x : Int} (A : Acc N (x :: q) hd wd last pu ta) : (1 ≤ x ∧ x ≤ wd ∧ last < x) ∧ ta[x.toNat]? = some 0 ∧ Acc N q hd wd x pu (ta.set x.toNat 1) := by
  have hi := List.pairwise_cons.1 A.inc
  have hn := A.nd
  rw [List.cons_append, List.nodup_cons] at hn
  have hr := A.rng x (by simp)
  obtain ⟨h1, h2, h3⟩ := acc_take (C' := q) (hd' := hd) (last' := x) A (fun z => by simp) hn.1 hi.2 hi.1 ⟨by omega, hr.2⟩ hn.2
  exact ⟨⟨h1.1, h1.2, A.low x (by simp)⟩, h2, h3⟩

/-- A push is finished. -/
theorem acc_pushed {N : Nat} {q : List Int} {wd w : Nat} {last : Int} {pu : List Bool} {ta : List Int} (A : Acc N q [] wd last pu ta) (hw : wd + 1 = w) (hN : w < N) : Acc N (q ++ [(w : Int)]) [] w last (pu.set w true) ta := by
  have hm : ∀ z : Int, z ∈ (q ++ [(w : Int)]) ++ [] ↔ (z ∈ q ++ [] ∨ z = w) := fun z => by simp
  have hq : ∀ z ∈ q, 1 ≤ z ∧ z ≤ wd := fun z hz => A.rng z (by simpa using hz)
  have hlb := A.lb
  refine ⟨by rw [List.length_set]; exact A.lp, A.lt, ?_, fun x hx => ?_, fun x hx => ?_, hN, ⟨hlb.1, by omega⟩, ?_, fun y h1 h2 => ?_⟩
  · rw [List.pairwise_append]
    refine ⟨A.inc, by simp, fun a ha b hb => ?_⟩
    rw [List.mem_singleton] at hb
    subst hb
    have := hq a ha
    omega
  · rcases List.mem_append.1 hx with h | h
    · exact A.low x h
    · rw [List.mem_singleton] at h; omega
  · rcases (hm x).1 hx with h | h
    · have := A.rng x h; omega
    · omega
  · rw [List.append_nil, List.nodup_append]
    have := A.nd
    rw [List.append_nil] at this
    refine ⟨this, by simp, fun a ha b hb => ?_⟩
    rw [List.mem_singleton] at hb
    subst hb
    have := hq a ha
    omega
  · obtain ⟨f1, f2, f3, f4⟩ := A.fl y h1 h2
    by_cases e : w = y
    · subst e
      have h0 := f4 (by omega)
      refine ⟨f1, ?_, fun _ => h0, fun h => by omega⟩
      rw [List.getElem?_set_self (by rw [A.lp]; exact hN)]
      simp
    · rw [List.getElem?_set_ne e]
      have hne : (y : Int) ≠ w := by omega
      refine ⟨f1, ?_, fun h => f3 (((hm y).1 h).resolve_right hne), fun h => f4 (by omega)⟩
      rw [f2, hm y]
      simp [hne]

/-- A push that found no room. -/
theorem acc_full {N : Nat} {q : List Int} {wd w : Nat} {last : Int} {pu : List Bool} {ta : List Int} (A : Acc N q [] wd last pu ta) (hw : wd + 1 = w) (hN : w < N) : Acc N q [] w last pu ta :=
  ⟨A.lp, A.lt, A.inc, A.low, fun x hx => by have := A.rng x hx; omega, hN, ⟨A.lb.1, by have := A.lb.2; omega⟩, A.nd, fun y h1 h2 => by
    obtain ⟨f1, f2, f3, f4⟩ := A.fl y h1 h2
    exact ⟨f1, f2, f3, fun h => f4 (by omega)⟩⟩

theorem acc_first (N : Nat) (hN : 0 < N) : Acc N [] [] 0 0 (List.replicate N false) (List.replicate N 0) := by
  refine ⟨by simp, by simp, List.Pairwise.nil, by simp, by simp, hN, by omega, by simp, fun y h1 h2 => ?_⟩
  rw [List.getElem?_replicate, if_pos h2, List.getElem?_replicate, if_pos h2]
  simp

/-- Nothing is left: each word that was pushed is told once. -/
theorem acc_end {N : Nat} {wd : Nat} {last : Int} {pu : List Bool} {ta : List Int} (A : Acc N [] [] wd last pu ta) (y : Nat) (h1 : 1 ≤ y) (h2 : y < N) : (pu[y]? = some true ∧ ta[y]? = some 1) ∨ (pu[y]? = some false ∧ ta[y]? = some 0) := by
  obtain ⟨f1, f2, f3, f4⟩ := A.fl y h1 h2
  have hp : y < pu.length := by rw [A.lp]; exact h2
  rcases f1 with f | f
  · refine .inr ⟨?_, f⟩
    rw [List.getElem?_eq_getElem hp] at f2 ⊢
    cases e : pu[y] with
    | false => rfl
    | true => have := f2.1 (by rw [e]); rw [f] at this; simp at this
  · exact .inl ⟨f2.2 (.inr f), f⟩

/-- What is left, when no one is at work. -/
theorem dm_rep {n : Nat} {l : List Int} {T : Nat} {q : List Int} {K : Nat} (D : DM n l T q [] ((T : Int) + q.length) K) : Rep n 0 l T q := by
  have hbd := D.bd
  have hk9 := D.k9
  rw [List.append_nil] at hbd
  refine ⟨D.len, by rw [D.top, wu_nat _ (by omega) (by omega)]; omega, by rw [D.bot]; congr 1; omega, by have := D.room; simpa using this, fun i x hx => ?_⟩
  have hi := (List.getElem?_eq_some_iff.1 hx).1
  have := D.item i x (by rw [List.append_nil]; exact hx)
  rw [show (0 : Int) + (T : Int) + (i : Int) = (T : Int) + i by omega, wu_nat _ (by omega) (by omega)]
  exact this

theorem dm_first (n : Nat) (h1 : 1 ≤ n) (h4 : n ≤ 4) : DM n (List.replicate (2 + n) 0) 0 [] [] (((0 : Nat) : Int) + (([] : List Int).length : Nat)) 0 := by
  have hz : ∀ i, mld (List.replicate (2 + n) 0) i = 0 := fun i => by
    unfold mld
    split
    · rename_i h
      simp only [List.getD_eq_getElem?_getD, List.getElem?_replicate]
      split <;> rfl
    · rfl
  exact ⟨h1, h4, by simp, hz 0, by rw [hz]; rfl, by simp, (fun i x hx => by simp at hx), (fun x hx => by rw [(List.mem_replicate.1 hx).2]; omega), by simp, by omega⟩

end Go.Proofs.Ytlmmaijbppdckaa
