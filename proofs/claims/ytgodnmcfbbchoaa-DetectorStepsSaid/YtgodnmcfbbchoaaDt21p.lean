/- Who tells the phases (package detector), in plain Lean: one step, and what is known of many. No condition but those that are named. -/
import Derived.Test.YtgodnmcfbbchoaaFirst5p
import Derived.Test.YtgodnmcfbbchoaaWords2
import Derived.Test.YtgodnmcfbbchoaaCells
set_option linter.unusedVariables false
set_option linter.unusedSimpArgs false
namespace Go.Proofs.Ytgodnmcfbbchoaa
open Go.ChangeShapes Go.WideShapes Go.ChangeAt Go.RowKit

/-- A detector: what it does, its cycle and turn, and what the last step did. -/
structure Dt where
  doing : Nat
  cy : Int
  turn : Int
  ek : Int
  ea : Int
  eb : Int

def dtTell (l : List Int) (d : Nat) (cy p : Int) : List Int × Dt := (mput l 0 (wPhase cy p), ⟨(d + 1) % 14, cy, 0, 7, p, cy⟩)
def dtSaid (c : Cfg) (l : List Int) (d : Nat) (cy t least : Int) : Dt :=
  bif decide (mld l (c.ackAt t) < least) then ⟨d, cy, t, 0, 0, 0⟩ else bif decide (t + 1 < c.mu) then ⟨d, cy, t + 1, 0, 0, 0⟩ else ⟨d + 1, cy, t + 1, 0, 0, 0⟩
/-- One step of a detector, with a number that is drawn. -/
def dtStep (c : Cfg) (l : List Int) : Dt → Int → List Int × Dt
  | ⟨0, cy, t, _, _, _⟩, d => bif d % 2 == 0 then (l, ⟨0, cy, t, 0, 0, 0⟩) else dtTell l 0 (cy + 1) 1
  | ⟨1, cy, t, _, _, _⟩, _ => (l, dtSaid c l 1 cy t (3 * cy - 2))
  | ⟨2, cy, _, _, _, _⟩, _ => dtTell l 2 cy 2
  | ⟨3, cy, t, _, _, _⟩, _ => (l, dtSaid c l 3 cy t (3 * cy - 1))
  | ⟨4, cy, _, _, _, _⟩, _ => dtTell l 4 cy 3
  | ⟨5, cy, t, _, _, _⟩, _ => (l, dtSaid c l 5 cy t (3 * cy))
  | ⟨6, cy, _, _, _, _⟩, _ => dtTell l 6 cy 4
  | ⟨7, cy, t, _, _, _⟩, _ => (l, ⟨bif mld l 1 != 0 then 7 else 8, cy, t, 0, 0, 0⟩)
  | ⟨8, cy, t, _, _, _⟩, _ => (l, ⟨bif mld l 1 != 0 then 7 else 9, cy, t, 0, 0, 0⟩)
  | ⟨9, cy, t, _, _, _⟩, _ => (mput l 2 (cy * 4294967296), ⟨10, cy, t, 0, 0, 0⟩)
  | ⟨10, cy, t, _, _, _⟩, _ => (mput l 3 0, ⟨11, cy, t, 0, 0, 0⟩)
  | ⟨11, cy, _, _, _, _⟩, _ => dtTell l 11 cy 5
  | ⟨12, cy, t, _, _, _⟩, _ => (l, ⟨bif mld l 3 != c.pt then 12 else 13, cy, t, 0, 0, 0⟩)
  | ⟨_, cy, _, _, _, _⟩, _ => dtTell l 13 cy 0

/-- Does a step make no access? -/
def dtIdle (x : Dt) (d : Int) : Bool := x.doing == 0 && d % 2 == 0
def dtCount (x : Dt) (d n : Int) : Int := bif dtIdle x d then n else wrap64 (n + 1)

/-- What is always so of a detector. -/
structure DtOk (c : Cfg) (x : Dt) : Prop where
  doing : x.doing ≤ 13
  cy0 : 0 ≤ x.cy
  cy1 : x.doing ≠ 0 → 1 ≤ x.cy
  t0 : 0 ≤ x.turn
  t1 : x.turn ≤ c.mu
  t2 : x.doing = 1 ∨ x.doing = 3 ∨ x.doing = 5 → x.turn < c.mu

theorem said_cases (c : Cfg) (l : List Int) (d : Nat) (cy t least : Int) :
    (mld l (c.ackAt t) < least ∧ dtSaid c l d cy t least = ⟨d, cy, t, 0, 0, 0⟩) ∨ (least ≤ mld l (c.ackAt t) ∧ t + 1 < c.mu ∧ dtSaid c l d cy t least = ⟨d, cy, t + 1, 0, 0, 0⟩) ∨ (least ≤ mld l (c.ackAt t) ∧ c.mu ≤ t + 1 ∧ dtSaid c l d cy t least = ⟨d + 1, cy, t + 1, 0, 0, 0⟩) := by
  unfold dtSaid
  by_cases h : mld l (c.ackAt t) < least
  · left; exact ⟨h, by simp [h]⟩
  · by_cases h1 : t + 1 < c.mu
    · right; left; exact ⟨by omega, h1, by simp [h, h1]⟩
    · right; right; exact ⟨by omega, by omega, by simp [h, h1]⟩

theorem said_ok {c : Cfg} (hc : CfgOk c) (l : List Int) (d : Nat) (cy t least : Int) (hd : d = 1 ∨ d = 3 ∨ d = 5) (h : DtOk c ⟨d, cy, t, 0, 0, 0⟩) : DtOk c (dtSaid c l d cy t least) := by
  obtain ⟨h1, h2, h3, h4, h5, h6⟩ := h
  dsimp only at h1 h2 h3 h4 h5 h6
  have := h3 (by omega)
  have := h6 hd
  rcases said_cases c l d cy t least with ⟨_, e⟩ | ⟨_, g, e⟩ | ⟨_, g, e⟩ <;> rw [e]
  · exact ⟨h1, h2, h3, h4, h5, h6⟩
  · exact ⟨h1, h2, h3, by dsimp only; omega, by dsimp only; omega, fun _ => g⟩
  · exact ⟨by dsimp only; omega, h2, fun _ => by dsimp only; omega, by dsimp only; omega, by dsimp only; omega, fun q => by dsimp only at q; omega⟩

theorem tell_ok {c : Cfg} (hc : CfgOk c) (l : List Int) (d : Nat) (cy p : Int) (hd : d ≤ 13) (h : 1 ≤ cy) : DtOk c (dtTell l d cy p).2 := by
  have := hc.mu
  exact ⟨by show (d + 1) % 14 ≤ 13; omega, by show 0 ≤ cy; omega, fun _ => h, by show (0 : Int) ≤ 0; omega, by show (0 : Int) ≤ c.mu; omega, fun _ => by show (0 : Int) < c.mu; omega⟩

theorem dt_ok {c : Cfg} (hc : CfgOk c) (l : List Int) (x : Dt) (d : Int) (h : DtOk c x) : DtOk c (dtStep c l x d).2 := by
  obtain ⟨doing, cy, t, ek, ea, eb⟩ := x
  have h0 := h
  obtain ⟨h1, h2, h3, h4, h5, h6⟩ := h
  dsimp only at h1 h2 h3 h4 h5 h6
  have k0 : DtOk c ⟨doing, cy, t, 0, 0, 0⟩ := ⟨h1, h2, h3, h4, h5, h6⟩
  have same : ∀ q : Nat, q ≤ 13 → doing ≠ 0 → ¬ (q = 1 ∨ q = 3 ∨ q = 5) → DtOk c ⟨q, cy, t, 0, 0, 0⟩ := fun q hq hd hn => ⟨hq, h2, fun _ => h3 hd, h4, h5, fun g => absurd g hn⟩
  match doing with
  | 0 =>
    show DtOk c (bif d % 2 == 0 then (l, (⟨0, cy, t, 0, 0, 0⟩ : Dt)) else dtTell l 0 (cy + 1) 1).2
    cases d % 2 == 0
    · exact tell_ok hc l 0 (cy + 1) 1 (by omega) (by omega)
    · exact k0
  | 1 => exact said_ok hc l 1 cy t _ (by omega) k0
  | 2 => exact tell_ok hc l 2 cy 2 (by omega) (h3 (by omega))
  | 3 => exact said_ok hc l 3 cy t _ (by omega) k0
  | 4 => exact tell_ok hc l 4 cy 3 (by omega) (h3 (by omega))
  | 5 => exact said_ok hc l 5 cy t _ (by omega) k0
  | 6 => exact tell_ok hc l 6 cy 4 (by omega) (h3 (by omega))
  | 7 =>
    show DtOk c ⟨bif mld l 1 != 0 then 7 else 8, cy, t, 0, 0, 0⟩
    cases mld l 1 != 0
    · exact same 8 (by omega) (by omega) (by omega)
    · exact same 7 (by omega) (by omega) (by omega)
  | 8 =>
    show DtOk c ⟨bif mld l 1 != 0 then 7 else 9, cy, t, 0, 0, 0⟩
    cases mld l 1 != 0
    · exact same 9 (by omega) (by omega) (by omega)
    · exact same 7 (by omega) (by omega) (by omega)
  | 9 => exact same 10 (by omega) (by omega) (by omega)
  | 10 => exact same 11 (by omega) (by omega) (by omega)
  | 11 => exact tell_ok hc l 11 cy 5 (by omega) (h3 (by omega))
  | 12 =>
    show DtOk c ⟨bif mld l 3 != c.pt then 12 else 13, cy, t, 0, 0, 0⟩
    cases mld l 3 != c.pt
    · exact same 13 (by omega) (by omega) (by omega)
    · exact same 12 (by omega) (by omega) (by omega)
  | 13 => exact tell_ok hc l 13 cy 0 (by omega) (h3 (by omega))
  | q + 14 => omega

/-- A cycle is the same, or one more just at its begin. -/
theorem dt_cy (c : Cfg) (l : List Int) (x : Dt) (d : Int) : (dtStep c l x d).2.cy = bif x.doing == 0 && !(d % 2 == 0) then x.cy + 1 else x.cy := by
  obtain ⟨doing, cy, t, ek, ea, eb⟩ := x
  have said : ∀ q least, (dtSaid c l q cy t least).cy = cy := fun q least => by
    rcases said_cases c l q cy t least with ⟨_, e⟩ | ⟨_, _, e⟩ | ⟨_, _, e⟩ <;> rw [e]
  match doing with
  | 0 =>
    show (bif d % 2 == 0 then (l, (⟨0, cy, t, 0, 0, 0⟩ : Dt)) else dtTell l 0 (cy + 1) 1).2.cy = bif !(d % 2 == 0) then cy + 1 else cy
    cases d % 2 == 0 <;> rfl
  | 1 => exact said 1 _
  | 2 => rfl
  | 3 => exact said 3 _
  | 4 => rfl
  | 5 => exact said 5 _
  | 6 => rfl
  | 7 => rfl
  | 8 => rfl
  | 9 => rfl
  | 10 => rfl
  | 11 => rfl
  | 12 => rfl
  | q + 13 => rfl

theorem dt_cy_le (c : Cfg) (l : List Int) (x : Dt) (d : Int) : x.cy ≤ (dtStep c l x d).2.cy ∧ (dtStep c l x d).2.cy ≤ x.cy + 1 := by
  rw [dt_cy]
  cases (x.doing == 0 && !(d % 2 == 0)) <;> simp only [cond_true, cond_false] <;> omega

/-- Of memory a step changes none but words 0, 2 and 3. -/
theorem dt_mem (c : Cfg) (l : List Int) (x : Dt) (d : Int) : (dtStep c l x d).1.length = l.length ∧ ∀ a, a ≠ 0 → a ≠ 2 → a ≠ 3 → mld (dtStep c l x d).1 a = mld l a := by
  obtain ⟨doing, cy, t, ek, ea, eb⟩ := x
  have tell : ∀ q cy p, (dtTell l q cy p).1.length = l.length ∧ ∀ a, a ≠ 0 → a ≠ 2 → a ≠ 3 → mld (dtTell l q cy p).1 a = mld l a := fun q cy p =>
    ⟨mput_length _ _ _, fun a h0 _ _ => mld_mput_ne _ _ _ _ (Ne.symm h0)⟩
  match doing with
  | 0 =>
    show (bif d % 2 == 0 then (l, (⟨0, cy, t, 0, 0, 0⟩ : Dt)) else dtTell l 0 (cy + 1) 1).1.length = l.length ∧ ∀ a, a ≠ 0 → a ≠ 2 → a ≠ 3 → mld (bif d % 2 == 0 then (l, (⟨0, cy, t, 0, 0, 0⟩ : Dt)) else dtTell l 0 (cy + 1) 1).1 a = mld l a
    cases d % 2 == 0
    · exact tell 0 (cy + 1) 1
    · exact ⟨rfl, fun _ _ _ _ => rfl⟩
  | 1 => exact ⟨rfl, fun _ _ _ _ => rfl⟩
  | 2 => exact tell 2 cy 2
  | 3 => exact ⟨rfl, fun _ _ _ _ => rfl⟩
  | 4 => exact tell 4 cy 3
  | 5 => exact ⟨rfl, fun _ _ _ _ => rfl⟩
  | 6 => exact tell 6 cy 4
  | 7 => exact ⟨rfl, fun _ _ _ _ => rfl⟩
  | 8 => exact ⟨rfl, fun _ _ _ _ => rfl⟩
  | 9 => exact ⟨mput_length _ _ _, fun a _ h2 _ => mld_mput_ne _ _ _ _ (Ne.symm h2)⟩
  | 10 => exact ⟨mput_length _ _ _, fun a _ _ h3 => mld_mput_ne _ _ _ _ (Ne.symm h3)⟩
  | 11 => exact tell 11 cy 5
  | 12 => exact ⟨rfl, fun _ _ _ _ => rfl⟩
  | q + 13 => exact tell 13 cy 0

/-- How far a detector is in its cycle. -/
def dtPos (c : Cfg) (x : Dt) : Int :=
  match x.doing with
  | 0 => 0
  | 1 => 1 + x.turn
  | 2 => 1 + c.mu
  | 3 => 2 + c.mu + x.turn
  | 4 => 2 + 2 * c.mu
  | 5 => 3 + 2 * c.mu + x.turn
  | 6 => 3 + 3 * c.mu
  | q => 3 + 3 * c.mu + (q : Int) - 6

/-- Nothing holds it up. -/
structure Rdy (c : Cfg) (l : List Int) (x : Dt) : Prop where
  ack : ∀ i, 0 ≤ i → i < c.mu → 3 * x.cy ≤ mld l (c.ackAt i)
  work : mld l 1 = 0
  done : x.doing = 12 → mld l 3 = c.pt

theorem said_go {c : Cfg} {l : List Int} {q : Nat} {cy t least : Int} (h0 : 0 ≤ t) (h1 : t < c.mu) (ha : 3 * cy ≤ mld l (c.ackAt t)) (hl : least ≤ 3 * cy) :
    (t + 1 < c.mu ∧ dtSaid c l q cy t least = ⟨q, cy, t + 1, 0, 0, 0⟩) ∨ (t + 1 = c.mu ∧ dtSaid c l q cy t least = ⟨q + 1, cy, t + 1, 0, 0, 0⟩) := by
  rcases said_cases c l q cy t least with ⟨g, e⟩ | ⟨_, g, e⟩ | ⟨_, g, e⟩
  · omega
  · exact .inl ⟨g, e⟩
  · exact .inr ⟨by omega, e⟩

theorem dt_go {c : Cfg} (hc : CfgOk c) (l : List Int) (x : Dt) (d : Int) (h : DtOk c x) (r : x.doing ≠ 0 → Rdy c l x) (hd : d % 2 = 1) :
    (x.doing ≠ 13 → dtPos c (dtStep c l x d).2 = dtPos c x + 1 ∧ (dtStep c l x d).2.doing ≠ 0) ∧ (x.doing = 13 → (dtStep c l x d).2.doing = 0 ∧ (dtStep c l x d).1 = mput l 0 (wPhase x.cy 0)) := by
  obtain ⟨doing, cy, t, ek, ea, eb⟩ := x
  obtain ⟨h1, h2, h3, h4, h5, h6⟩ := h
  have hmu := hc.mu
  dsimp only at h1 h2 h3 h4 h5 h6
  have said : ∀ (q : Nat) least, (q = 1 ∨ q = 3 ∨ q = 5) → doing = q → least ≤ 3 * cy → dtPos c (dtSaid c l q cy t least) = dtPos c ⟨q, cy, t, ek, ea, eb⟩ + 1 ∧ (dtSaid c l q cy t least).doing ≠ 0 := by
    intro q least hq e hl
    have ha := (r (by dsimp only; omega)).ack t h4 (h6 (by omega))
    rcases said_go (q := q) (least := least) h4 (h6 (by omega)) ha hl with ⟨g, e⟩ | ⟨g, e⟩ <;> rw [e] <;> rcases hq with rfl | rfl | rfl <;> refine ⟨?_, by simp⟩ <;> simp only [dtPos] <;> omega
  match doing with
  | 0 =>
    have e : dtStep c l ⟨0, cy, t, ek, ea, eb⟩ d = dtTell l 0 (cy + 1) 1 := by
      show (bif d % 2 == 0 then (l, (⟨0, cy, t, 0, 0, 0⟩ : Dt)) else dtTell l 0 (cy + 1) 1) = _
      rw [hd]; rfl
    rw [e]
    exact ⟨fun _ => ⟨rfl, by simp [dtTell]⟩, (fun q => by cases q)⟩
  | 1 => exact ⟨fun _ => said 1 _ (by omega) rfl (by omega), (fun q => by cases q)⟩
  | 2 => exact ⟨fun _ => ⟨by show 2 + c.mu + 0 = 1 + c.mu + 1; omega, by simp [dtStep, dtTell]⟩, (fun q => by cases q)⟩
  | 3 => exact ⟨fun _ => said 3 _ (by omega) rfl (by omega), (fun q => by cases q)⟩
  | 4 => exact ⟨fun _ => ⟨by show 3 + 2 * c.mu + 0 = 2 + 2 * c.mu + 1; omega, by simp [dtStep, dtTell]⟩, (fun q => by cases q)⟩
  | 5 => exact ⟨fun _ => said 5 _ (by omega) rfl (by omega), (fun q => by cases q)⟩
  | 6 => exact ⟨fun _ => ⟨by show 3 + 3 * c.mu + ((7 : Nat) : Int) - 6 = 3 + 3 * c.mu + 1; omega, by simp [dtStep, dtTell]⟩, (fun q => by cases q)⟩
  | 7 =>
    have w := (r (by simp)).work
    have e : dtStep c l ⟨7, cy, t, ek, ea, eb⟩ d = (l, ⟨8, cy, t, 0, 0, 0⟩) := by
      show (l, (⟨bif mld l 1 != 0 then 7 else 8, cy, t, 0, 0, 0⟩ : Dt)) = _
      rw [w]; rfl
    rw [e]
    exact ⟨fun _ => ⟨by show 3 + 3 * c.mu + ((8 : Nat) : Int) - 6 = 3 + 3 * c.mu + ((7 : Nat) : Int) - 6 + 1; omega, by simp⟩, (fun q => by cases q)⟩
  | 8 =>
    have w := (r (by simp)).work
    have e : dtStep c l ⟨8, cy, t, ek, ea, eb⟩ d = (l, ⟨9, cy, t, 0, 0, 0⟩) := by
      show (l, (⟨bif mld l 1 != 0 then 7 else 9, cy, t, 0, 0, 0⟩ : Dt)) = _
      rw [w]; rfl
    rw [e]
    exact ⟨fun _ => ⟨by show 3 + 3 * c.mu + ((9 : Nat) : Int) - 6 = 3 + 3 * c.mu + ((8 : Nat) : Int) - 6 + 1; omega, by simp⟩, (fun q => by cases q)⟩
  | 9 => exact ⟨fun _ => ⟨by show 3 + 3 * c.mu + ((10 : Nat) : Int) - 6 = 3 + 3 * c.mu + ((9 : Nat) : Int) - 6 + 1; omega, by simp [dtStep]⟩, (fun q => by cases q)⟩
  | 10 => exact ⟨fun _ => ⟨by show 3 + 3 * c.mu + ((11 : Nat) : Int) - 6 = 3 + 3 * c.mu + ((10 : Nat) : Int) - 6 + 1; omega, by simp [dtStep]⟩, (fun q => by cases q)⟩
  | 11 => exact ⟨fun _ => ⟨by show 3 + 3 * c.mu + ((12 : Nat) : Int) - 6 = 3 + 3 * c.mu + ((11 : Nat) : Int) - 6 + 1; omega, by simp [dtStep, dtTell]⟩, (fun q => by cases q)⟩
  | 12 =>
    have w := (r (by simp)).done rfl
    have e : dtStep c l ⟨12, cy, t, ek, ea, eb⟩ d = (l, ⟨13, cy, t, 0, 0, 0⟩) := by
      show (l, (⟨bif mld l 3 != c.pt then 12 else 13, cy, t, 0, 0, 0⟩ : Dt)) = _
      rw [w]; simp
    rw [e]
    exact ⟨fun _ => ⟨by show 3 + 3 * c.mu + ((13 : Nat) : Int) - 6 = 3 + 3 * c.mu + ((12 : Nat) : Int) - 6 + 1; omega, by simp⟩, (fun q => by cases q)⟩
  | 13 => exact ⟨(fun q => by simp at q), fun _ => ⟨rfl, rfl⟩⟩
  | q + 14 => omega

end Go.Proofs.Ytgodnmcfbbchoaa
