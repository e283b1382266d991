/- A marker's tasks (package deque), in plain Lean: one step of a machine, and what a whole push, pop or steal does. No condition but those that are named. -/
import Derived.Test.YtlmmaijbppdckaaWords2
import Derived.Test.YtlmmaijbppdckaaCells
set_option linter.unusedVariables false
set_option linter.unusedSimpArgs false
namespace Go.Proofs.Ytlmmaijbppdckaa
open Go.ChangeShapes Go.WideShapes Go.ChangeAt Go.RowKit

/-- Where a deque stands. -/
structure En where
  top : Int
  bottom : Int
  entry : Int
  room : Int

/-- A machine: its next step (0: finished; 1 to 4 a push, 5 to 10 a pop, 11 to 14 a steal), and what it knows. -/
structure Dq where
  st : Nat
  b : Int
  t : Int
  w : Int
  out : Int
  won : Bool

abbrev wu (x : Int) : Int := IntKind.u64.wrap x
def enRoom (e : En) : Int := if 1 ≤ e.room then e.room else 1
def enAt (e : En) (x : Int) : Int := e.entry + x % enRoom e

def dqPick (b : Bool) (x y : Dq) : Dq := bif b then x else y
def dqStep (e : En) (l : List Int) : Dq → List Int × Dq
  | ⟨0, b, t, w, o, won⟩ => (l, ⟨0, b, t, w, o, won⟩)
  | ⟨1, b, t, w, o, won⟩ => (l, ⟨2, mld l e.bottom, t, w, o, won⟩)
  | ⟨2, b, t, w, o, won⟩ => (l, dqPick (decide (enRoom e ≤ wAhead b (mld l e.top))) ⟨0, b, mld l e.top, 0, 2, won⟩ ⟨3, b, mld l e.top, w, o, won⟩)
  | ⟨3, b, t, w, o, won⟩ => (mput l (enAt e b) w, ⟨4, b, t, w, o, won⟩)
  | ⟨4, b, t, w, o, won⟩ => (mput l e.bottom (wu (b + 1)), ⟨0, b, t, 0, 1, won⟩)
  | ⟨5, b, t, w, o, won⟩ => (l, ⟨6, wu (mld l e.bottom - 1), t, w, o, won⟩)
  | ⟨6, b, t, w, o, won⟩ => (mput l e.bottom b, ⟨7, b, t, w, o, won⟩)
  | ⟨7, b, t, w, o, won⟩ => (l, ⟨bif decide (0 < wAhead (mld l e.top) b) then 10 else 8, b, mld l e.top, w, o, won⟩)
  | ⟨8, b, t, w, o, won⟩ => (l, dqPick (decide (0 < wAhead b t)) ⟨0, b, t, mld l (enAt e b), 1, won⟩ ⟨9, b, t, mld l (enAt e b), o, won⟩)
  | ⟨9, b, t, w, o, won⟩ => (mswap l e.top t (wu (t + 1)), ⟨10, b, t, w, o, mswapped l e.top t⟩)
  | ⟨10, b, t, w, o, won⟩ => (mput l e.bottom (wu (b + 1)), dqPick won ⟨0, b, t, w, 1, won⟩ ⟨0, b, t, 0, 3, won⟩)
  | ⟨11, b, t, w, o, won⟩ => (l, ⟨12, b, mld l e.top, w, o, won⟩)
  | ⟨12, b, t, w, o, won⟩ => (l, dqPick (decide (wAhead (mld l e.bottom) t ≤ 0)) ⟨0, mld l e.bottom, t, w, 3, won⟩ ⟨13, mld l e.bottom, t, w, o, won⟩)
  | ⟨13, b, t, w, o, won⟩ => (l, ⟨14, b, t, mld l (enAt e t), o, won⟩)
  | ⟨_, b, t, w, o, won⟩ => (mswap l e.top t (wu (t + 1)), dqPick (mswapped l e.top t) ⟨0, b, t, w, 1, won⟩ ⟨0, b, t, 0, 4, won⟩)

def dqPush (w : Int) : Dq := ⟨1, 0, 0, w, 0, false⟩
def dqPop : Dq := ⟨5, 0, 0, 0, 0, false⟩
def dqSteal : Dq := ⟨11, 0, 0, 0, 0, false⟩
def dqCount (m : Dq) (n : Int) : Int := bif m.st == 0 then n else wrap64 (n + 1)
/-- What is told of a machine. -/
def dqOut (m : Dq) : Int := bif m.st == 0 then m.out else 0
def dqW (m : Dq) : Int := bif m.st == 0 then m.w else 0

/-- Numbers of a machine are of their kinds. -/
structure DqOk (m : Dq) : Prop where
  st : m.st ≤ 14
  b : 0 ≤ m.b ∧ m.b < 18446744073709551616
  t : 0 ≤ m.t ∧ m.t < 18446744073709551616
  w : 0 ≤ m.w ∧ m.w < 18446744073709551616
def Wds (l : List Int) : Prop := ∀ x ∈ l, 0 ≤ x ∧ x < 18446744073709551616
theorem wds_mld {l : List Int} (h : Wds l) (i : Int) : 0 ≤ mld l i ∧ mld l i < 18446744073709551616 := by
  by_cases hi : 0 ≤ i ∧ i < l.length
  · rw [mld_in hi]
    have hj : i.toNat < l.length := by omega
    have := h l[i.toNat] (List.getElem_mem hj)
    simpa [List.getD, hj] using this
  · rw [mld_out hi]; omega
theorem wds_mput {l : List Int} (h : Wds l) (i x : Int) (hx : 0 ≤ x ∧ x < 18446744073709551616) : Wds (mput l i x) := by
  unfold mput
  split
  · intro y hy
    rcases List.mem_or_eq_of_mem_set hy with q | q
    · exact h y q
    · rw [q]; exact hx
  · exact h
theorem wds_mswap {l : List Int} (h : Wds l) (i o x : Int) (hx : 0 ≤ x ∧ x < 18446744073709551616) : Wds (mswap l i o x) := by
  unfold mswap; split
  · exact wds_mput h i x hx
  · exact h
theorem wu_bd (x : Int) : 0 ≤ wu x ∧ wu x < 18446744073709551616 := ⟨wrap_u64_lo x, wrap_u64_hi x⟩

theorem dq_ok (e : En) {l : List Int} {m : Dq} (hw : Wds l) (h : DqOk m) : Wds (dqStep e l m).1 ∧ DqOk (dqStep e l m).2 := by
  obtain ⟨st, b, t, w, o, won⟩ := m
  obtain ⟨h0, hb, ht, hW⟩ := h
  dsimp only at h0 hb ht hW
  have z : (0 : Int) ≤ 0 ∧ (0 : Int) < 18446744073709551616 := by omega
  have pick : ∀ (c : Bool) (x y : Dq), DqOk x → DqOk y → DqOk (dqPick c x y) := fun c x y hx hy => by cases c <;> assumption
  match st with
  | 0 => exact ⟨hw, ⟨h0, hb, ht, hW⟩⟩
  | 1 => exact ⟨hw, ⟨Nat.le_of_ble_eq_true rfl, wds_mld hw _, ht, hW⟩⟩
  | 2 => exact ⟨hw, pick _ _ _ ⟨Nat.le_of_ble_eq_true rfl, hb, wds_mld hw _, z⟩ ⟨Nat.le_of_ble_eq_true rfl, hb, wds_mld hw _, hW⟩⟩
  | 3 => exact ⟨wds_mput hw _ _ hW, ⟨Nat.le_of_ble_eq_true rfl, hb, ht, hW⟩⟩
  | 4 => exact ⟨wds_mput hw _ _ (wu_bd _), ⟨Nat.le_of_ble_eq_true rfl, hb, ht, z⟩⟩
  | 5 => exact ⟨hw, ⟨Nat.le_of_ble_eq_true rfl, wu_bd _, ht, hW⟩⟩
  | 6 => exact ⟨wds_mput hw _ _ hb, ⟨Nat.le_of_ble_eq_true rfl, hb, ht, hW⟩⟩
  | 7 => exact ⟨hw, ⟨by show (bif decide (0 < wAhead (mld l e.top) b) then 10 else 8) ≤ 14; cases decide (0 < wAhead (mld l e.top) b) <;> decide, hb, wds_mld hw _, hW⟩⟩
  | 8 => exact ⟨hw, pick _ _ _ ⟨Nat.le_of_ble_eq_true rfl, hb, ht, wds_mld hw _⟩ ⟨Nat.le_of_ble_eq_true rfl, hb, ht, wds_mld hw _⟩⟩
  | 9 => exact ⟨wds_mswap hw _ _ _ (wu_bd _), ⟨Nat.le_of_ble_eq_true rfl, hb, ht, hW⟩⟩
  | 10 => exact ⟨wds_mput hw _ _ (wu_bd _), pick _ _ _ ⟨Nat.le_of_ble_eq_true rfl, hb, ht, hW⟩ ⟨Nat.le_of_ble_eq_true rfl, hb, ht, z⟩⟩
  | 11 => exact ⟨hw, ⟨Nat.le_of_ble_eq_true rfl, hb, wds_mld hw _, hW⟩⟩
  | 12 => exact ⟨hw, pick _ _ _ ⟨Nat.le_of_ble_eq_true rfl, wds_mld hw _, ht, hW⟩ ⟨Nat.le_of_ble_eq_true rfl, wds_mld hw _, ht, hW⟩⟩
  | 13 => exact ⟨hw, ⟨Nat.le_of_ble_eq_true rfl, hb, ht, wds_mld hw _⟩⟩
  | 14 => exact ⟨wds_mswap hw _ _ _ (wu_bd _), pick _ _ _ ⟨Nat.le_of_ble_eq_true rfl, hb, ht, hW⟩ ⟨Nat.le_of_ble_eq_true rfl, hb, ht, z⟩⟩
  | q + 15 => omega

theorem dq_len (e : En) (l : List Int) (m : Dq) : (dqStep e l m).1.length = l.length := by
  obtain ⟨st, b, t, w, o, won⟩ := m
  have sw : ∀ i o x, (mswap l i o x).length = l.length := fun i o x => by unfold mswap; split <;> simp [mput_length]
  match st with
  | 0 => rfl
  | 1 => rfl
  | 2 => rfl
  | 3 => exact mput_length _ _ _
  | 4 => exact mput_length _ _ _
  | 5 => rfl
  | 6 => exact mput_length _ _ _
  | 7 => rfl
  | 8 => rfl
  | 9 => exact sw _ _ _
  | 10 => exact mput_length _ _ _
  | 11 => rfl
  | 12 => rfl
  | 13 => rfl
  | q + 14 => exact sw _ _ _

/-- How many steps a machine has yet to make at most. -/
def dqRank (m : Dq) : Nat :=
  match m.st with
  | 0 => 0
  | 1 => 4 | 2 => 3 | 3 => 2 | 4 => 1
  | 5 => 6 | 6 => 5 | 7 => 4 | 8 => 3 | 9 => 2 | 10 => 1
  | 11 => 4 | 12 => 3 | 13 => 2 | _ => 1
theorem dq_rank (e : En) (l : List Int) (m : Dq) : dqRank (dqStep e l m).2 ≤ dqRank m - 1 := by
  obtain ⟨st, b, t, w, o, won⟩ := m
  have pick : ∀ (k : Nat) (c : Bool) (x y : Dq), dqRank x ≤ k → dqRank y ≤ k → dqRank (dqPick c x y) ≤ k := fun k c x y hx hy => by cases c <;> assumption
  match st with
  | 0 => exact Nat.zero_le _
  | 1 => exact Nat.le_refl 3
  | 2 => exact pick 2 _ _ _ (Nat.zero_le _) (Nat.le_refl 2)
  | 3 => exact Nat.le_refl 1
  | 4 => exact Nat.le_refl 0
  | 5 => exact Nat.le_refl 5
  | 6 => exact Nat.le_refl 4
  | 7 =>
    show dqRank ⟨bif decide (0 < wAhead (mld l e.top) b) then 10 else 8, b, mld l e.top, w, o, won⟩ ≤ 3
    cases decide (0 < wAhead (mld l e.top) b)
    · exact Nat.le_refl 3
    · show 1 ≤ 3; omega
  | 8 => exact pick 2 _ _ _ (Nat.zero_le _) (Nat.le_refl 2)
  | 9 => exact Nat.le_refl 1
  | 10 => exact pick 0 _ _ _ (Nat.le_refl 0) (Nat.le_refl 0)
  | 11 => exact Nat.le_refl 3
  | 12 => exact pick 2 _ _ _ (Nat.zero_le _) (Nat.le_refl 2)
  | 13 => exact Nat.le_refl 1
  | q + 14 => exact pick 0 _ _ _ (Nat.le_refl 0) (Nat.le_refl 0)

theorem dq_done {m : Dq} (h : dqRank m = 0) (hs : m.st ≤ 14) : m.st = 0 := by
  obtain ⟨st, b, t, w, o, won⟩ := m
  dsimp only at hs
  match st, h with
  | 0, _ => rfl
  | q + 15, _ => omega

/-- A machine that is finished tells Done, Full, None or Lost. -/
def OutOk (m : Dq) : Prop := m.st = 0 → 1 ≤ m.out ∧ m.out ≤ 4
theorem o1 : (1 : Int) ≤ 1 ∧ (1 : Int) ≤ 4 := by decide
theorem o2 : (1 : Int) ≤ 2 ∧ (2 : Int) ≤ 4 := by decide
theorem o3 : (1 : Int) ≤ 3 ∧ (3 : Int) ≤ 4 := by decide
theorem o4 : (1 : Int) ≤ 4 ∧ (4 : Int) ≤ 4 := by decide
theorem dq_out (e : En) (l : List Int) (m : Dq) (h : OutOk m) : OutOk (dqStep e l m).2 := by
  obtain ⟨st, b, t, w, o, won⟩ := m
  have pick : ∀ (c : Bool) (x y : Dq), OutOk x → OutOk y → OutOk (dqPick c x y) := fun c x y hx hy => by cases c <;> assumption
  have no : ∀ (q : Nat) b t w o won, q ≠ 0 → OutOk ⟨q, b, t, w, o, won⟩ := fun q b t w o won hq h => absurd h hq
  match st with
  | 0 => exact h
  | 1 => exact no 2 _ _ _ _ _ (by decide)
  | 2 => exact pick _ _ _ (fun _ => o2) (no 3 _ _ _ _ _ (by decide))
  | 3 => exact no 4 _ _ _ _ _ (by decide)
  | 4 => exact fun _ => o1
  | 5 => exact no 6 _ _ _ _ _ (by decide)
  | 6 => exact no 7 _ _ _ _ _ (by decide)
  | 7 => exact no _ _ _ _ _ _ (by cases decide (0 < wAhead (mld l e.top) b) <;> decide)
  | 8 => exact pick _ _ _ (fun _ => o1) (no 9 _ _ _ _ _ (by decide))
  | 9 => exact no 10 _ _ _ _ _ (by decide)
  | 10 => exact pick _ _ _ (fun _ => o1) (fun _ => o3)
  | 11 => exact no 12 _ _ _ _ _ (by decide)
  | 12 => exact pick _ _ _ (fun _ => o3) (no 13 _ _ _ _ _ (by decide))
  | 13 => exact no 14 _ _ _ _ _ (by decide)
  | q + 14 => exact pick _ _ _ (fun _ => o1) (fun _ => o4)

/-- Some steps of a machine alone. -/
def dqRun (e : En) : Nat → List Int × Dq → List Int × Dq
  | 0, s => s
  | n + 1, s => dqRun e n (dqStep e s.1 s.2)
theorem dqRun_nil (e : En) (n : Nat) (l : List Int) (m : Dq) (h : m.st = 0) : dqRun e n (l, m) = (l, m) := by
  induction n with
  | zero => rfl
  | succ n ih =>
    obtain ⟨st, b, t, w, o, won⟩ := m
    dsimp only at h
    subst h
    exact ih

/-- Memory is a deque at words 0, 1 and from 2 on: its words are q, its ends stand a behind base. -/
structure Rep (n : Nat) (base : Int) (l : List Int) (a : Nat) (q : List Int) : Prop where
  len : l.length = 2 + n
  top : mld l 0 = wu (base + a)
  bot : mld l 1 = wu (base + a + q.length)
  room : q.length ≤ n
  item : ∀ (i : Nat) x, q[i]? = some x → mld l (2 + wu (base + a + i) % n) = x

/-- The ends of numbers don't part the places. -/
def Fits (n : Nat) (base : Int) : Prop := 1 ≤ n ∧ n ≤ 8 ∧ 0 ≤ base ∧ base < 18446744073709551616 ∧ ((18446744073709551616 : Int) % n = 0 ∨ base = 0)

def en (n : Nat) : En := ⟨0, 1, 2, n⟩
theorem en_room {n : Nat} (h : 1 ≤ n) : enRoom (en n) = n := by unfold enRoom en; dsimp only; rw [if_pos (by omega)]
theorem en_at {n : Nat} (h : 1 ≤ n) (x : Int) : enAt (en n) x = 2 + x % n := by unfold enAt; rw [en_room h]; rfl

theorem wu_eq (x : Int) : wu x = x % 18446744073709551616 := IntKind.wrap_u64 x
theorem wu_add (x y : Int) : wu (wu x + y) = wu (x + y) := by simp only [wu_eq]; omega
theorem wu_sub (x y : Int) : wu (wu x - y) = wu (x - y) := by simp only [wu_eq]; omega
theorem ahead_wu (x d : Int) (h0 : -1000000 ≤ d) (h1 : d ≤ 1000000) : wAhead (wu (x + d)) (wu x) = d := by
  unfold wAhead wrap64; simp only [wu_eq]; omega

theorem fits_mod {n : Nat} {base : Int} (h : Fits n base) (x : Int) (h0 : 0 ≤ x) (h1 : x ≤ 1000000) : wu (base + x) % n = (base + x) % n := by
  obtain ⟨_, _, b0, b1, hd | hb⟩ := h
  · rw [wu_eq]; exact Int.emod_emod_of_dvd _ (Int.dvd_of_emod_eq_zero hd)
  · subst hb; rw [wu_eq, Int.emod_eq_of_lt (a := 0 + x) (b := 18446744073709551616) (by omega) (by omega)]

theorem mod_ne {n : Nat} (x : Int) (i j : Nat) (h : i < j) (hj : j < i + n) : (x + j) % (n : Int) ≠ (x + i) % (n : Int) := by
  intro e
  have h2 := Int.emod_eq_emod_iff_emod_sub_eq_zero.1 e
  have h3 := Int.le_of_dvd (by omega) (Int.dvd_of_emod_eq_zero h2)
  omega

theorem fits_ne {n : Nat} {base : Int} (h : Fits n base) (a : Nat) (i j : Nat) (hi : i < j) (hj : j < i + n) (hb : a + j ≤ 1000000) : wu (base + a + j) % n ≠ wu (base + a + i) % n := by
  have h1 := fits_mod h ((a : Int) + j) (by omega) (by omega)
  have h2 := fits_mod h ((a : Int) + i) (by omega) (by omega)
  rw [show base + ((a : Int) + j) = base + a + j by omega] at h1
  rw [show base + ((a : Int) + i) = base + a + i by omega] at h2
  rw [h1, h2]
  exact mod_ne (base + a) i j hi hj

theorem mod_in {n : Nat} (h : 1 ≤ n) (x : Int) : 0 ≤ x % (n : Int) ∧ x % (n : Int) < n := ⟨Int.emod_nonneg _ (by omega), Int.emod_lt_of_pos _ (by omega)⟩

theorem run_push (e : En) (l : List Int) (x : Int) : dqRun e 8 (l, dqPush x) = dqRun e 6 (l, dqPick (decide (enRoom e ≤ wAhead (mld l e.bottom) (mld l e.top))) ⟨0, mld l e.bottom, mld l e.top, 0, 2, false⟩ ⟨3, mld l e.bottom, mld l e.top, x, 0, false⟩) := rfl
theorem run_push2 (e : En) (l : List Int) (b t x : Int) : dqRun e 6 (l, ⟨3, b, t, x, 0, false⟩) = (mput (mput l (enAt e b) x) e.bottom (wu (b + 1)), ⟨0, b, t, 0, 1, false⟩) := rfl
theorem run_pop (e : En) (l : List Int) : dqRun e 8 (l, dqPop) = dqRun e 5 (mput l e.bottom (wu (mld l e.bottom - 1)), ⟨bif decide (0 < wAhead (mld (mput l e.bottom (wu (mld l e.bottom - 1))) e.top) (wu (mld l e.bottom - 1))) then 10 else 8, wu (mld l e.bottom - 1), mld (mput l e.bottom (wu (mld l e.bottom - 1))) e.top, 0, 0, false⟩) := rfl
theorem run_pop10 (e : En) (l : List Int) (b t : Int) : dqRun e 5 (l, ⟨10, b, t, 0, 0, false⟩) = (mput l e.bottom (wu (b + 1)), ⟨0, b, t, 0, 3, false⟩) := rfl
theorem run_pop8 (e : En) (l : List Int) (b t : Int) : dqRun e 5 (l, ⟨8, b, t, 0, 0, false⟩) = dqRun e 4 (l, dqPick (decide (0 < wAhead b t)) ⟨0, b, t, mld l (enAt e b), 1, false⟩ ⟨9, b, t, mld l (enAt e b), 0, false⟩) := rfl
theorem run_pop9 (e : En) (l : List Int) (b t w : Int) : dqRun e 4 (l, ⟨9, b, t, w, 0, false⟩) = dqRun e 2 (mput (mswap l e.top t (wu (t + 1))) e.bottom (wu (b + 1)), dqPick (mswapped l e.top t) ⟨0, b, t, w, 1, mswapped l e.top t⟩ ⟨0, b, t, 0, 3, mswapped l e.top t⟩) := rfl
theorem run_steal (e : En) (l : List Int) : dqRun e 8 (l, dqSteal) = dqRun e 6 (l, dqPick (decide (wAhead (mld l e.bottom) (mld l e.top) ≤ 0)) ⟨0, mld l e.bottom, mld l e.top, 0, 3, false⟩ ⟨13, mld l e.bottom, mld l e.top, 0, 0, false⟩) := rfl
theorem run_steal13 (e : En) (l : List Int) (b t : Int) : dqRun e 6 (l, ⟨13, b, t, 0, 0, false⟩) = dqRun e 4 (mswap l e.top t (wu (t + 1)), dqPick (mswapped l e.top t) ⟨0, b, t, mld l (enAt e t), 1, false⟩ ⟨0, b, t, 0, 4, false⟩) := rfl

/-- What a whole thing comes to: memory, and what is told. -/
structure Comes (s : List Int × Dq) (out w : Int) : Prop where
  st : s.2.st = 0
  out : s.2.out = out
  w : s.2.w = w

theorem comes0 (e : En) (k : Nat) (l : List Int) (b t w o : Int) (won : Bool) : dqRun e k (l, ⟨0, b, t, w, o, won⟩) = (l, ⟨0, b, t, w, o, won⟩) := dqRun_nil e k l _ rfl

theorem rep_push {n : Nat} {base : Int} {l : List Int} {a : Nat} {q : List Int} (F : Fits n base) (R : Rep n base l a q) (ha : a ≤ 1000) (x : Int) :
    (q.length = n → ∃ s, dqRun (en n) 8 (l, dqPush x) = s ∧ Comes s 2 0 ∧ s.1 = l) ∧ (q.length < n → ∃ s, dqRun (en n) 8 (l, dqPush x) = s ∧ Comes s 1 0 ∧ Rep n base s.1 a (q ++ [x])) := by
  obtain ⟨hl, ht, hb, hr, hi⟩ := R
  have n1 := F.1
  have n8 := F.2.1
  have hA : wAhead (mld l (en n).bottom) (mld l (en n).top) = q.length := by
    show wAhead (mld l 1) (mld l 0) = _
    rw [hb, ht]
    exact ahead_wu _ _ (by omega) (by omega)
  have hR := run_push (en n) l x
  rw [hA, en_room n1] at hR
  refine ⟨fun h => ⟨_, rfl, ?_⟩, fun h => ⟨_, rfl, ?_⟩⟩
  · rw [hR, show decide ((n : Int) ≤ (q.length : Int)) = true by simp; omega]
    rw [show dqPick true (⟨0, mld l (en n).bottom, mld l (en n).top, 0, 2, false⟩ : Dq) ⟨3, mld l (en n).bottom, mld l (en n).top, x, 0, false⟩ = ⟨0, mld l (en n).bottom, mld l (en n).top, 0, 2, false⟩ from rfl, comes0]
    exact ⟨⟨rfl, rfl, rfl⟩, rfl⟩
  · rw [hR, show decide ((n : Int) ≤ (q.length : Int)) = false by simp; omega]
    rw [show dqPick false (⟨0, mld l (en n).bottom, mld l (en n).top, 0, 2, false⟩ : Dq) ⟨3, mld l (en n).bottom, mld l (en n).top, x, 0, false⟩ = ⟨3, mld l (en n).bottom, mld l (en n).top, x, 0, false⟩ from rfl, run_push2]
    refine ⟨⟨rfl, rfl, rfl⟩, ?_⟩
    rw [en_at n1]
    show Rep n base (mput (mput l (2 + mld l 1 % (n : Int)) x) 1 (wu (mld l 1 + 1))) a (q ++ [x])
    have hm := mod_in n1 (mld l 1)
    refine ⟨by rw [mput_length, mput_length, hl], ?_, ?_, by simp; omega, fun i y hy => ?_⟩
    · rw [mld_mput_ne _ _ _ _ (by omega), mld_mput_ne _ _ _ _ (by omega), ht]
    · rw [mld_mput_same (by rw [mput_length, hl]; omega), hb, wu_add]
      congr 1
      simp; omega
    · have hk := mod_in n1 (wu (base + a + i))
      rw [mld_mput_ne _ _ _ _ (by omega)]
      rcases Nat.lt_or_ge i q.length with c | c
      · rw [List.getElem?_append_left c] at hy
        have hne := fits_ne F a i q.length c (by omega) (by omega)
        rw [hb]
        rw [mld_mput_ne _ _ _ _ (by omega)]
        exact hi i y hy
      · rw [List.getElem?_append_right c] at hy
        obtain ⟨r, _⟩ := List.getElem?_eq_some_iff.1 hy
        have e : i = q.length := by simp at r; omega
        subst e
        simp at hy
        subst hy
        rw [hb, mld_mput_same (by rw [hl]; rw [hb] at hm; omega)]

theorem rep_pop {n : Nat} {base : Int} {l : List Int} {a : Nat} {q : List Int} (F : Fits n base) (R : Rep n base l a q) (ha : a ≤ 1000) :
    (q = [] → ∃ s, dqRun (en n) 8 (l, dqPop) = s ∧ Comes s 3 0 ∧ Rep n base s.1 a []) ∧ (∀ x p, q = p ++ [x] → ∃ s, dqRun (en n) 8 (l, dqPop) = s ∧ Comes s 1 x ∧ Rep n base s.1 (bif p.isEmpty then a + 1 else a) p) := by
  obtain ⟨hl, ht, hb, hr, hi⟩ := R
  have n1 := F.1
  have n8 := F.2.1
  have hR := run_pop (en n) l
  have hB : wu (mld l (en n).bottom - 1) = wu (base + a + q.length - 1) := by
    show wu (mld l 1 - 1) = _
    rw [hb, wu_sub]
  have hT : mld (mput l (en n).bottom (wu (mld l (en n).bottom - 1))) (en n).top = wu (base + a) := by
    show mld (mput l 1 _) 0 = _
    rw [mld_mput_ne _ _ _ _ (by omega), ht]
  have hA : wAhead (wu (base + a)) (wu (base + a + q.length - 1)) = 1 - q.length := by
    have := ahead_wu (base + a + q.length - 1) (1 - q.length) (by omega) (by omega)
    rwa [show base + a + (q.length : Int) - 1 + (1 - (q.length : Int)) = base + a by omega] at this
  have hA2 : wAhead (wu (base + a + q.length - 1)) (wu (base + a)) = q.length - 1 := by
    have := ahead_wu (base + a) (q.length - 1) (by omega) (by omega)
    rwa [show base + a + ((q.length : Int) - 1) = base + a + q.length - 1 by omega] at this
  rw [hT, hB, hA] at hR
  have hlm : ∀ x, (mput l 1 x).length = 2 + n := fun x => by rw [mput_length, hl]
  refine ⟨fun h => ⟨_, rfl, ?_⟩, fun x p h => ?_⟩
  · subst h
    rw [hR, show decide ((0 : Int) < 1 - (([] : List Int).length : Int)) = true from rfl]
    simp only [cond_true]
    rw [run_pop10]
    refine ⟨⟨rfl, rfl, rfl⟩, ?_⟩
    show Rep n base (mput (mput l 1 _) 1 (wu (wu (base + a + (0 : Nat) - 1) + 1))) a []
    refine ⟨by rw [mput_length, hlm], ?_, ?_, by simp, by simp⟩
    · rw [mld_mput_ne _ _ _ _ (by omega), mld_mput_ne _ _ _ _ (by omega), ht]
    · rw [mld_mput_same (by rw [hlm]; omega), wu_add]
      congr 1; simp
  · subst h
    have hq : ((p ++ [x]).length : Int) = p.length + 1 := by simp
    have hr' : p.length + 1 ≤ n := by simpa using hr
    rw [hq] at hR hA2
    have e1 : base + (a : Int) + ((p.length : Int) + 1) - 1 = base + a + p.length := by omega
    rw [e1] at hR hA2
    rw [show (p.length : Int) + 1 - 1 = p.length by omega] at hA2
    rw [show decide ((0 : Int) < 1 - ((p.length : Int) + 1)) = false by simp; omega] at hR
    simp only [cond_false] at hR
    rw [run_pop8, hA2] at hR
    have hm := mod_in n1 (wu (base + a + p.length))
    have hw : mld (mput l (en n).bottom (wu (base + a + p.length))) (enAt (en n) (wu (base + a + p.length))) = x := by
      rw [en_at n1]
      show mld (mput l 1 _) _ = x
      rw [mld_mput_ne _ _ _ _ (by omega)]
      exact hi p.length x (by simp)
    rw [hw] at hR
    cases p with
    | nil =>
      rw [show decide ((0 : Int) < (([] : List Int).length : Int)) = false from rfl] at hR
      rw [show ∀ y z : Dq, dqPick false y z = z from fun _ _ => rfl, run_pop9] at hR
      have hs : mld (mput l (en n).bottom (wu (base + a + (([] : List Int).length : Nat)))) (en n).top = wu (base + a) := by
        show mld (mput l 1 _) 0 = _
        rw [mld_mput_ne _ _ _ _ (by omega), ht]
      have hY := mswap_yes' (l := mput l (en n).bottom (wu (base + a + (([] : List Int).length : Nat)))) (i := (en n).top) ⟨by show (0 : Int) ≤ 0; omega, by show (0 : Int) < ((mput l 1 _).length : Int); rw [hlm]; omega⟩ (wu (wu (base + a) + 1))
      rw [hs] at hY
      rw [hY.1, hY.2, show ∀ y z : Dq, dqPick true y z = y from fun _ _ => rfl, comes0] at hR
      refine ⟨_, rfl, ?_, ?_⟩
      · rw [hR]; exact ⟨rfl, rfl, rfl⟩
      · rw [hR]
        show Rep n base (mput (mput (mput l 1 (wu (base + a + (0 : Nat)))) 0 (wu (wu (base + a) + 1))) 1 (wu (wu (base + a + (0 : Nat)) + 1))) (a + 1) []
        refine ⟨by rw [mput_length, mput_length, hlm], ?_, ?_, by simp, by simp⟩
        · rw [mld_mput_ne _ _ _ _ (by omega), mld_mput_same (by rw [hlm]; omega), wu_add]
          congr 1; omega
        · rw [mld_mput_same (by rw [mput_length, hlm]; omega), wu_add]
          congr 1; simp; omega
    | cons p0 p1 =>
      rw [show decide ((0 : Int) < (((p0 :: p1) : List Int).length : Int)) = true by simp] at hR
      rw [show ∀ y z : Dq, dqPick true y z = y from fun _ _ => rfl, comes0] at hR
      refine ⟨_, rfl, ?_, ?_⟩
      · rw [hR]; exact ⟨rfl, rfl, rfl⟩
      · rw [hR]
        show Rep n base (mput l 1 (wu (base + a + ((p0 :: p1 : List Int).length : Nat)))) a (p0 :: p1)
        generalize p0 :: p1 = p at *
        refine ⟨hlm _, ?_, ?_, by omega, fun i y hy => ?_⟩
        · rw [mld_mput_ne _ _ _ _ (by omega), ht]
        · rw [mld_mput_same (by omega)]
        · have hk := mod_in n1 (wu (base + a + i))
          rw [mld_mput_ne _ _ _ _ (by omega)]
          exact hi i y (by rw [List.getElem?_append_left (List.getElem?_eq_some_iff.1 hy).1]; exact hy)

theorem rep_steal {n : Nat} {base : Int} {l : List Int} {a : Nat} {q : List Int} (F : Fits n base) (R : Rep n base l a q) (ha : a ≤ 1000) :
    (q = [] → ∃ s, dqRun (en n) 8 (l, dqSteal) = s ∧ Comes s 3 0 ∧ Rep n base s.1 a []) ∧ (∀ x p, q = x :: p → ∃ s, dqRun (en n) 8 (l, dqSteal) = s ∧ Comes s 1 x ∧ Rep n base s.1 (a + 1) p) := by
  have R0 := R
  obtain ⟨hl, ht, hb, hr, hi⟩ := R
  have n1 := F.1
  have n8 := F.2.1
  have hR := run_steal (en n) l
  have hA : wAhead (mld l (en n).bottom) (mld l (en n).top) = q.length := by
    show wAhead (mld l 1) (mld l 0) = _
    rw [hb, ht]
    exact ahead_wu _ _ (by omega) (by omega)
  rw [hA] at hR
  refine ⟨fun h => ⟨_, rfl, ?_⟩, fun x p h => ⟨_, rfl, ?_⟩⟩
  · subst h
    rw [hR, show decide ((([] : List Int).length : Int) ≤ 0) = true from rfl, show ∀ y z : Dq, dqPick true y z = y from fun _ _ => rfl, comes0]
    exact ⟨⟨rfl, rfl, rfl⟩, R0⟩
  · subst h
    rw [hR, show decide ((((x :: p) : List Int).length : Int) ≤ 0) = false by simp, show ∀ y z : Dq, dqPick false y z = z from fun _ _ => rfl, run_steal13]
    have hY := mswap_yes' (l := l) (i := (en n).top) ⟨by show (0 : Int) ≤ 0; omega, by show (0 : Int) < (l.length : Int); rw [hl]; omega⟩ (wu (mld l (en n).top + 1))
    rw [hY.1, hY.2, show ∀ y z : Dq, dqPick true y z = y from fun _ _ => rfl, comes0]
    have hx := hi 0 x rfl
    rw [show base + (a : Int) + ((0 : Nat) : Int) = base + a by simp, ← ht] at hx
    refine ⟨⟨rfl, rfl, ?_⟩, ?_⟩
    · show mld l (enAt (en n) (mld l (en n).top)) = x
      rw [en_at n1]; exact hx
    · show Rep n base (mput l 0 (wu (mld l 0 + 1))) (a + 1) p
      have hr' : p.length + 1 ≤ n := by simpa using hr
      refine ⟨by rw [mput_length, hl], ?_, ?_, by omega, fun i y hy => ?_⟩
      · rw [mld_mput_same (by omega), ht, wu_add]
        congr 1; omega
      · rw [mld_mput_ne _ _ _ _ (by omega), hb]
        rw [show base + (a : Int) + (((x :: p) : List Int).length : Int) = base + ((a + 1 : Nat) : Int) + (p.length : Int) by simp; omega]
      · have hk := mod_in n1 (wu (base + (a + 1 : Nat) + i))
        rw [mld_mput_ne _ _ _ _ (by omega)]
        have h9 := hi (i + 1) y (by simpa using hy)
        rw [show base + ((a + 1 : Nat) : Int) + (i : Int) = base + a + ((i + 1 : Nat) : Int) by omega]
        exact h9

theorem comes_out {s : List Int × Dq} {o w : Int} (h : Comes s o w) : dqOut s.2 = o ∧ dqW s.2 = w := by
  unfold dqOut dqW
  rw [h.st, h.out, h.w]
  exact ⟨rfl, rfl⟩

/-- Of whatever base, the same comes of it. -/
def Same8 (n a : Nat) (q : List Int) (m : Dq) : Prop := ∃ a' q' out w, a' ≤ a + 1 ∧ ∀ base l, Fits n base → Rep n base l a q → ∃ s, dqRun (en n) 8 (l, m) = s ∧ Comes s out w ∧ Rep n base s.1 a' q'
theorem same_push (n a : Nat) (q : List Int) (x : Int) (ha : a ≤ 1000) : Same8 n a q (dqPush x) := by
  by_cases h : q.length = n
  · refine ⟨a, q, 2, 0, by omega, fun base l F R => ?_⟩
    obtain ⟨s, h1, h2, h3⟩ := (rep_push F R ha x).1 h
    exact ⟨s, h1, h2, by rw [h3]; exact R⟩
  · refine ⟨a, q ++ [x], 1, 0, by omega, fun base l F R => ?_⟩
    exact (rep_push F R ha x).2 (by have := R.room; omega)
theorem same_pop (n a : Nat) (q : List Int) (ha : a ≤ 1000) : Same8 n a q dqPop := by
  rcases List.eq_nil_or_concat q with rfl | ⟨p, y, rfl⟩
  · exact ⟨a, [], 3, 0, by omega, fun base l F R => (rep_pop F R ha).1 rfl⟩
  · rw [List.concat_eq_append]
    exact ⟨bif p.isEmpty then a + 1 else a, p, 1, y, by cases p.isEmpty <;> simp, fun base l F R => (rep_pop F R ha).2 y p rfl⟩
theorem same_steal (n a : Nat) (q : List Int) (ha : a ≤ 1000) : Same8 n a q dqSteal := by
  cases q with
  | nil => exact ⟨a, [], 3, 0, by omega, fun base l F R => (rep_steal F R ha).1 rfl⟩
  | cons x p => exact ⟨a + 1, p, 1, x, by omega, fun base l F R => (rep_steal F R ha).2 x p rfl⟩

end Go.Proofs.Ytlmmaijbppdckaa
