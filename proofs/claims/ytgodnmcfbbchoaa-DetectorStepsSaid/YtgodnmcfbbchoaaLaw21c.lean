/- The walk of DetectorWaits: it answers true, and nothing that was there is changed. No condition but that the arguments can be read. -/
import Derived.Test.YtgodnmcfbbchoaaAw21
import Derived.Test.YtgodnmcfbbchoaaMeth21
import Derived.Test.YtgodnmcfbbchoaaDt21q
set_option linter.unusedVariables false
set_option linter.unusedSimpArgs false
namespace Go.Proofs.Ytgodnmcfbbchoaa
open Go.ChangeShapes Go.WideShapes Go.ChangeAt Go.RowKit

/-- A flag: is each of the first i as much as told? -/
def flg (wf : Nat → Int) (t : Int) : Nat → Bool
  | 0 => true
  | i + 1 => flg wf t i && decide (t ≤ wf i)
theorem flg_iff (wf : Nat → Int) (t : Int) : ∀ n : Nat, flg wf t n = true ↔ ∀ j : Nat, j < n → t ≤ wf j
  | 0 => ⟨fun _ j h => by omega, fun _ => rfl⟩
  | n + 1 => by
    simp only [flg, Bool.and_eq_true, flg_iff wf t n, decide_eq_true_eq]
    constructor
    · rintro ⟨h1, h2⟩ j hj
      by_cases e : j = n
      · subst e; exact h2
      · exact h1 j (by omega)
    · exact fun h => ⟨fun j hj => h j (by omega), h n (by omega)⟩
/-- The words that are said. -/
def ackW (c : Cfg) (l : List Int) (wf : Nat → Int) : Nat → List Int
  | 0 => l
  | i + 1 => mput (ackW c l wf i) (c.ackAt i) (wf i)
theorem ackW_len (c : Cfg) (l : List Int) (wf : Nat → Int) : ∀ i : Nat, (ackW c l wf i).length = l.length
  | 0 => rfl
  | i + 1 => (mput_length _ _ _).trans (ackW_len c l wf i)
theorem ackW_at {c : Cfg} {l : List Int} (hl : 6 + c.mu ≤ (l.length : Int)) (wf : Nat → Int) : ∀ (i : Nat), (i : Int) ≤ c.mu → ∀ k : Nat, k < i → mld (ackW c l wf i) (c.ackAt k) = wf k
  | 0, _, k, h1 => by omega
  | i + 1, hi, k, h1 => by
    show mld (mput (ackW c l wf i) (c.ackAt i) (wf i)) (c.ackAt k) = wf k
    rw [ackAt_is (i : Int) (by omega) (by omega), ackAt_is (k : Int) (by omega) (by omega)]
    by_cases e : k = i
    · subst e
      rw [mld_mput_same (by rw [ackW_len]; omega)]
    · rw [mld_mput_ne _ _ _ _ (by omega)]
      have := ackW_at hl wf i (by omega) k (by omega)
      rwa [ackAt_is (k : Int) (by omega) (by omega)] at this

/-- What is known by how far it is. -/
def Pas (c : Cfg) (wf : Nat → Int) (b D : Int) (x : Dt) : Prop :=
  match x.doing with
  | 0 => x.cy = 0 ∨ ((∀ j : Nat, (j : Int) < c.mu → 3 ≤ wf j) ∧ b = 0 ∧ D = c.pt)
  | 1 => ∀ j : Nat, (j : Int) < x.turn → 1 ≤ wf j
  | 2 => ∀ j : Nat, (j : Int) < c.mu → 1 ≤ wf j
  | 3 => (∀ j : Nat, (j : Int) < c.mu → 1 ≤ wf j) ∧ ∀ j : Nat, (j : Int) < x.turn → 2 ≤ wf j
  | 4 => ∀ j : Nat, (j : Int) < c.mu → 2 ≤ wf j
  | 5 => (∀ j : Nat, (j : Int) < c.mu → 2 ≤ wf j) ∧ ∀ j : Nat, (j : Int) < x.turn → 3 ≤ wf j
  | 6 => ∀ j : Nat, (j : Int) < c.mu → 3 ≤ wf j
  | 7 => ∀ j : Nat, (j : Int) < c.mu → 3 ≤ wf j
  | 13 => (∀ j : Nat, (j : Int) < c.mu → 3 ≤ wf j) ∧ b = 0 ∧ D = c.pt
  | _ => (∀ j : Nat, (j : Int) < c.mu → 3 ≤ wf j) ∧ b = 0
/-- What holds it up. -/
def Stk (c : Cfg) (wf : Nat → Int) (b D : Int) (x : Dt) : Prop :=
  (x.doing = 1 ∧ wf x.turn.toNat < 1) ∨ (x.doing = 3 ∧ wf x.turn.toNat < 2) ∨ (x.doing = 5 ∧ wf x.turn.toNat < 3) ∨ (x.doing = 7 ∧ b ≠ 0) ∨ (x.doing = 12 ∧ D ≠ c.pt)

/-- What holds between two rounds. -/
structure WInv (c : Cfg) (wf : Nat → Int) (b D : Int) (k : Nat) (l : List Int) (x : Dt) : Prop where
  ok : DtOk c x
  len : 6 + c.mu ≤ (l.length : Int)
  ack : ∀ j : Nat, (j : Int) < c.mu → mld l (c.ackAt j) = wf j
  work : mld l 1 = b
  done : x.doing = 12 → mld l 3 = D
  pas : Pas c wf b D x
  beg : k = 0 → x = d0
  cy : 0 < k → x.cy = 1
  pos : 0 < k → x.doing ≠ 0 → dtPos c x = k ∨ Stk c wf b D x
  end_ : 0 < k → x.doing = 0 → (k : Int) = 11 + 3 * c.mu

theorem ack_turn {c : Cfg} {wf : Nat → Int} {l : List Int} (ha : ∀ j : Nat, (j : Int) < c.mu → mld l (c.ackAt j) = wf j) {t : Int} (h0 : 0 ≤ t) (h1 : t < c.mu) : mld l (c.ackAt t) = wf t.toNat := by
  have := ha t.toNat (by omega)
  rwa [show ((t.toNat : Nat) : Int) = t by omega] at this

/-- One said word more: the step of doing 1, 3 or 5 at cycle 1. -/
theorem wsaid {c : Cfg} (h : CfgOk c) {wf : Nat → Int} {l : List Int} (ha : ∀ j : Nat, (j : Int) < c.mu → mld l (c.ackAt j) = wf j) (q : Nat) (t least : Int) (t0 : 0 ≤ t) (t1 : t < c.mu) :
    (wf t.toNat < least ∧ dtSaid c l q 1 t least = ⟨q, 1, t, 0, 0, 0⟩) ∨ (least ≤ wf t.toNat ∧ t + 1 < c.mu ∧ dtSaid c l q 1 t least = ⟨q, 1, t + 1, 0, 0, 0⟩) ∨ (least ≤ wf t.toNat ∧ t + 1 = c.mu ∧ dtSaid c l q 1 t least = ⟨q + 1, 1, t + 1, 0, 0, 0⟩) := by
  have e := ack_turn ha t0 t1
  rcases said_cases c l q 1 t least with ⟨g, r⟩ | ⟨g, g2, r⟩ | ⟨g, g2, r⟩ <;> rw [e] at g
  · exact .inl ⟨g, r⟩
  · exact .inr (.inl ⟨g, g2, r⟩)
  · exact .inr (.inr ⟨g, by omega, r⟩)
theorem upto {wf : Nat → Int} {t v : Int} (t0 : 0 ≤ t) (h : ∀ j : Nat, (j : Int) < t → v ≤ wf j) (hv : v ≤ wf t.toNat) : ∀ j : Nat, (j : Int) < t + 1 → v ≤ wf j := fun j hj => by
  by_cases e : (j : Int) = t
  · have : j = t.toNat := by omega
    rw [this]; exact hv
  · exact h j (by omega)

/-- What a step makes of it: it told Sweeping, it began the next cycle, or neither. -/
theorem w_step {c : Cfg} (h : CfgOk c) {wf : Nat → Int} {b D : Int} {k : Nat} {l : List Int} {x : Dt} (I : WInv c wf b D k l x) :
    ((dtStep c l x 1).2.cy = 2 ∧ (dtStep c l x 1).2.ek = 7 ∧ (dtStep c l x 1).2.ea = 1 ∧ (∀ j : Nat, (j : Int) < c.mu → 3 ≤ wf j) ∧ b = 0 ∧ D = c.pt) ∨
    ((dtStep c l x 1).2.cy = 1 ∧ (dtStep c l x 1).2.ek = 7 ∧ (dtStep c l x 1).2.ea = 5 ∧ (dtStep c l x 1).2.eb = 1 ∧ WInv c wf b D (k + 1) (mput (dtStep c l x 1).1 3 D) (dtStep c l x 1).2) ∨
    ((dtStep c l x 1).2.cy = 1 ∧ ((dtStep c l x 1).2.ek ≠ 7 ∨ (dtStep c l x 1).2.ea ≠ 5) ∧ WInv c wf b D (k + 1) (dtStep c l x 1).1 (dtStep c l x 1).2) := by
  have hok := dt_ok h l x 1 I.ok
  obtain ⟨m1, m2⟩ := dt_mem c l x 1
  have hmu := h.mu
  have hack : ∀ j : Nat, (j : Int) < c.mu → mld (dtStep c l x 1).1 (c.ackAt j) = wf j := fun j hj => by
    have := ackAt_is (c := c) (j : Int) (by omega) hj
    rw [m2 _ (by omega) (by omega) (by omega)]; exact I.ack j hj
  have hwork : mld (dtStep c l x 1).1 1 = b := by rw [m2 _ (by decide) (by decide) (by decide)]; exact I.work
  have hlen : 6 + c.mu ≤ ((dtStep c l x 1).1.length : Int) := by rw [m1]; exact I.len
  obtain ⟨hbe, hcy, hpos, hend, hpas, hdone, iok, iack, iwork⟩ := (⟨I.beg, I.cy, I.pos, I.end_, I.pas, I.done, I.ok, I.ack, I.work⟩ : _ ∧ _ ∧ _ ∧ _ ∧ _ ∧ _ ∧ _ ∧ _ ∧ _)
  by_cases k0 : k = 0
  · have e := hbe k0
    subst e
    subst k0
    refine .inr (.inr ⟨rfl, .inr (by show (1 : Int) ≠ 5; decide), hok, hlen, hack, hwork, (fun q => by cases q), (fun j hj => by have hj' : (j : Int) < 0 := hj; omega), (fun q => by omega), fun _ => rfl, fun _ _ => .inl (by show (1 : Int) + 0 = ((0 + 1 : Nat) : Int); decide), (fun _ q => by cases q)⟩)
  have kp : 0 < k := by omega
  have c1 := hcy kp
  obtain ⟨d, cy, t, ek, ea, eb⟩ := x
  dsimp only at c1
  subst c1
  obtain ⟨o1, o2, o3, o4, o5, o6⟩ := iok
  dsimp only at o1 o2 o3 o4 o5 o6
  -- the rest of what holds, for a step that tells nothing of Sweeping
  have fin : ∀ (d' : Nat) (t' ek' ea' eb' : Int), dtStep c l ⟨d, 1, t, ek, ea, eb⟩ 1 = ((dtStep c l ⟨d, 1, t, ek, ea, eb⟩ 1).1, ⟨d', 1, t', ek', ea', eb'⟩) → (ek' ≠ 7 ∨ ea' ≠ 5) → (d' = 12 → mld (dtStep c l ⟨d, 1, t, ek, ea, eb⟩ 1).1 3 = D) → Pas c wf b D ⟨d', 1, t', ek', ea', eb'⟩ → (d' ≠ 0 → dtPos c ⟨d', 1, t', ek', ea', eb'⟩ = ((k + 1 : Nat) : Int) ∨ Stk c wf b D ⟨d', 1, t', ek', ea', eb'⟩) → (d' = 0 → ((k + 1 : Nat) : Int) = 11 + 3 * c.mu) →
      ((dtStep c l ⟨d, 1, t, ek, ea, eb⟩ 1).2.cy = 1 ∧ ((dtStep c l ⟨d, 1, t, ek, ea, eb⟩ 1).2.ek ≠ 7 ∨ (dtStep c l ⟨d, 1, t, ek, ea, eb⟩ 1).2.ea ≠ 5) ∧ WInv c wf b D (k + 1) (dtStep c l ⟨d, 1, t, ek, ea, eb⟩ 1).1 (dtStep c l ⟨d, 1, t, ek, ea, eb⟩ 1).2) := by
    intro d' t' ek' ea' eb' e he hd hp hq hz
    have e2 : (dtStep c l ⟨d, 1, t, ek, ea, eb⟩ 1).2 = ⟨d', 1, t', ek', ea', eb'⟩ := by rw [e]
    rw [e2]
    rw [e2] at hok
    exact ⟨rfl, he, hok, hlen, hack, hwork, hd, hp, (fun q => by omega), fun _ => rfl, fun _ => hq, fun _ => hz⟩
  have said : ∀ (q : Nat) (least : Int), (q = 1 ∨ q = 3 ∨ q = 5) → d = q → dtStep c l ⟨d, 1, t, ek, ea, eb⟩ 1 = (l, dtSaid c l q 1 t least) → (∀ t', Pas c wf b D ⟨q, 1, t', 0, 0, 0⟩ ↔ ((q = 3 → ∀ j : Nat, (j : Int) < c.mu → 1 ≤ wf j) ∧ (q = 5 → ∀ j : Nat, (j : Int) < c.mu → 2 ≤ wf j) ∧ ∀ j : Nat, (j : Int) < t' → least ≤ wf j)) → (Pas c wf b D ⟨q + 1, 1, c.mu, 0, 0, 0⟩ ↔ ∀ j : Nat, (j : Int) < c.mu → least ≤ wf j) → (wf t.toNat < least → Stk c wf b D ⟨q, 1, t, 0, 0, 0⟩) → (∀ ek ea eb, Stk c wf b D ⟨q, 1, t, ek, ea, eb⟩ → wf t.toNat < least) → Pas c wf b D ⟨q, 1, t, 0, 0, 0⟩ →
      ((dtStep c l ⟨d, 1, t, ek, ea, eb⟩ 1).2.cy = 1 ∧ ((dtStep c l ⟨d, 1, t, ek, ea, eb⟩ 1).2.ek ≠ 7 ∨ (dtStep c l ⟨d, 1, t, ek, ea, eb⟩ 1).2.ea ≠ 5) ∧ WInv c wf b D (k + 1) (dtStep c l ⟨d, 1, t, ek, ea, eb⟩ 1).1 (dtStep c l ⟨d, 1, t, ek, ea, eb⟩ 1).2) := by
    intro q least hq hdq est hp1 hp2 hs1 hs2 hp
    subst hdq
    have tm := o6 hq
    obtain ⟨p1, p2, p3⟩ := (hp1 t).1 hp
    have hps := hpos kp (by show d ≠ 0; omega)
    have nst : least ≤ wf t.toNat → dtPos c ⟨d, 1, t, ek, ea, eb⟩ = (k : Int) := fun g => by
      rcases hps with r | r
      · exact r
      · have := hs2 _ _ _ r; omega
    have e1 : (dtStep c l ⟨d, 1, t, ek, ea, eb⟩ 1).1 = l := by rw [est]
    rcases wsaid h iack d t least o4 tm with ⟨g, r⟩ | ⟨g, g2, r⟩ | ⟨g, g2, r⟩
    · exact fin d t 0 0 0 (by rw [est, r]) (.inl (by decide)) (fun q => by omega) hp (fun _ => .inr (hs1 g)) (fun q => by omega)
    · refine fin d (t + 1) 0 0 0 (by rw [est, r]) (.inl (by decide)) (fun q => by omega) ((hp1 _).2 ⟨p1, p2, upto o4 p3 g⟩) (fun _ => .inl ?_) (fun q => by omega)
      have := nst g
      rcases hq with rfl | rfl | rfl <;> simp only [dtPos] at this ⊢ <;> omega
    · have e2 := upto o4 p3 g
      rw [g2] at r e2
      refine fin (d + 1) c.mu 0 0 0 (by rw [est, r]) (.inl (by decide)) (fun q => by omega) (hp2.2 e2) (fun _ => .inl ?_) (fun q => by omega)
      have := nst g
      rcases hq with rfl | rfl | rfl <;> simp only [dtPos] at this ⊢ <;> omega
  have pos1 : ∀ (q : Nat), d = q → q ≠ 0 → (q ≠ 1 ∧ q ≠ 3 ∧ q ≠ 5 ∧ (q = 7 → b = 0) ∧ (q = 12 → D = c.pt)) → dtPos c ⟨d, 1, t, ek, ea, eb⟩ = (k : Int) := fun q e hq0 hn => by
    subst e
    rcases hpos kp hq0 with r | r
    · exact r
    · rcases r with ⟨r, _⟩ | ⟨r, _⟩ | ⟨r, _⟩ | ⟨r, r2⟩ | ⟨r, r2⟩
      · exact absurd r hn.1
      · exact absurd r hn.2.1
      · exact absurd r hn.2.2.1
      · exact absurd (hn.2.2.2.1 r) r2
      · exact absurd (hn.2.2.2.2 r) r2
  have hd : d = 0 ∨ d = 1 ∨ d = 2 ∨ d = 3 ∨ d = 4 ∨ d = 5 ∨ d = 6 ∨ d = 7 ∨ d = 8 ∨ d = 9 ∨ d = 10 ∨ d = 11 ∨ d = 12 ∨ d = 13 := by omega
  rcases hd with rfl | rfl | rfl | rfl | rfl | rfl | rfl | rfl | rfl | rfl | rfl | rfl | rfl | rfl
  · have hp : (1 : Int) = 0 ∨ ((∀ j : Nat, (j : Int) < c.mu → 3 ≤ wf j) ∧ b = 0 ∧ D = c.pt) := hpas
    rcases hp with hp | hp
    · omega
    · exact .inl ⟨rfl, rfl, rfl, hp.1, hp.2.1, hp.2.2⟩
  · exact .inr (.inr (said 1 1 (by omega) rfl rfl (fun t' => ⟨fun g => ⟨fun q => by omega, fun q => by omega, g⟩, fun g => g.2.2⟩) ⟨fun g => g, fun g => g⟩ (fun g => .inl ⟨rfl, g⟩) (fun _ _ _ g => by rcases g with ⟨_, g⟩ | ⟨g, _⟩ | ⟨g, _⟩ | ⟨g, _⟩ | ⟨g, _⟩ <;> first | exact g | (cases g)) hpas))
  · exact .inr (.inr (fin 3 0 7 2 1 rfl (.inr (by decide)) (fun q => by omega) ⟨hpas, fun j hj => by have hj' : (j : Int) < 0 := hj; omega⟩ (fun _ => .inl (by have := pos1 2 rfl (by omega) (by omega); simp only [dtPos] at this ⊢; omega)) (fun q => by omega)))
  · exact .inr (.inr (said 3 2 (by omega) rfl rfl (fun t' => ⟨fun g => ⟨fun _ => g.1, fun q => by omega, g.2⟩, fun g => ⟨g.1 rfl, g.2.2⟩⟩) ⟨fun g => g, fun g => g⟩ (fun g => .inr (.inl ⟨rfl, g⟩)) (fun _ _ _ g => by rcases g with ⟨g, _⟩ | ⟨_, g⟩ | ⟨g, _⟩ | ⟨g, _⟩ | ⟨g, _⟩ <;> first | exact g | (cases g)) hpas))
  · exact .inr (.inr (fin 5 0 7 3 1 rfl (.inr (by decide)) (fun q => by omega) ⟨hpas, fun j hj => by have hj' : (j : Int) < 0 := hj; omega⟩ (fun _ => .inl (by have := pos1 4 rfl (by omega) (by omega); simp only [dtPos] at this ⊢; omega)) (fun q => by omega)))
  · exact .inr (.inr (said 5 3 (by omega) rfl rfl (fun t' => ⟨fun g => ⟨fun q => by omega, fun _ => g.1, g.2⟩, fun g => ⟨g.2.1 rfl, g.2.2⟩⟩) ⟨fun g => g, fun g => g⟩ (fun g => .inr (.inr (.inl ⟨rfl, g⟩))) (fun _ _ _ g => by rcases g with ⟨g, _⟩ | ⟨g, _⟩ | ⟨_, g⟩ | ⟨g, _⟩ | ⟨g, _⟩ <;> first | exact g | (cases g)) hpas))
  · exact .inr (.inr (fin 7 0 7 4 1 rfl (.inr (by decide)) (fun q => by omega) hpas (fun _ => .inl (by have := pos1 6 rfl (by omega) (by omega); simp only [dtPos] at this ⊢; omega)) (fun q => by omega)))
  · by_cases hb : b = 0
    · have e : dtStep c l ⟨7, 1, t, ek, ea, eb⟩ 1 = (l, ⟨8, 1, t, 0, 0, 0⟩) := by show (l, (⟨bif mld l 1 != 0 then 7 else 8, 1, t, 0, 0, 0⟩ : Dt)) = _; rw [iwork, hb]; rfl
      exact .inr (.inr (fin 8 t 0 0 0 (by rw [e]) (.inl (by decide)) (fun q => by omega) ⟨hpas, hb⟩ (fun _ => .inl (by have := pos1 7 rfl (by omega) ⟨by omega, by omega, by omega, fun _ => hb, fun q => by omega⟩; simp only [dtPos] at this ⊢; omega)) (fun q => by omega)))
    · have e : dtStep c l ⟨7, 1, t, ek, ea, eb⟩ 1 = (l, ⟨7, 1, t, 0, 0, 0⟩) := by show (l, (⟨bif mld l 1 != 0 then 7 else 8, 1, t, 0, 0, 0⟩ : Dt)) = _; rw [iwork, show (b != 0) = true by simpa using hb]; rfl
      exact .inr (.inr (fin 7 t 0 0 0 (by rw [e]) (.inl (by decide)) (fun q => by omega) hpas (fun _ => .inr (.inr (.inr (.inr (.inl ⟨rfl, hb⟩))))) (fun q => by omega)))
  · have hb : b = 0 := hpas.2
    have e : dtStep c l ⟨8, 1, t, ek, ea, eb⟩ 1 = (l, ⟨9, 1, t, 0, 0, 0⟩) := by show (l, (⟨bif mld l 1 != 0 then 7 else 9, 1, t, 0, 0, 0⟩ : Dt)) = _; rw [iwork, hb]; rfl
    exact .inr (.inr (fin 9 t 0 0 0 (by rw [e]) (.inl (by decide)) (fun q => by omega) hpas (fun _ => .inl (by have := pos1 8 rfl (by omega) (by omega); simp only [dtPos] at this ⊢; omega)) (fun q => by omega)))
  · exact .inr (.inr (fin 10 t 0 0 0 rfl (.inl (by decide)) (fun q => by omega) hpas (fun _ => .inl (by have := pos1 9 rfl (by omega) (by omega); simp only [dtPos] at this ⊢; omega)) (fun q => by omega)))
  · exact .inr (.inr (fin 11 t 0 0 0 rfl (.inl (by decide)) (fun q => by omega) hpas (fun _ => .inl (by have := pos1 10 rfl (by omega) (by omega); simp only [dtPos] at this ⊢; omega)) (fun q => by omega)))
  · have e : (dtStep c l ⟨11, 1, t, ek, ea, eb⟩ 1).2 = ⟨12, 1, 0, 7, 5, 1⟩ := rfl
    rw [e]
    rw [e] at hok
    refine .inr (.inl ⟨rfl, rfl, rfl, rfl, hok, by rw [mput_length]; exact hlen, fun j hj => ?_, ?_, fun _ => mld_mput_same (by omega) _, hpas, (fun q => by omega), fun _ => rfl, fun _ _ => .inl ?_, (fun _ q => by cases q)⟩)
    · have := ackAt_is (c := c) (j : Int) (by omega) hj
      rw [mld_mput_ne _ _ _ _ (by omega)]; exact hack j hj
    · rw [mld_mput_ne _ _ _ _ (by decide)]; exact hwork
    · have := pos1 11 rfl (by omega) (by omega); simp only [dtPos] at this ⊢; omega
  · have hl3 := hdone rfl
    by_cases hD : D = c.pt
    · have e : dtStep c l ⟨12, 1, t, ek, ea, eb⟩ 1 = (l, ⟨13, 1, t, 0, 0, 0⟩) := by show (l, (⟨bif mld l 3 != c.pt then 12 else 13, 1, t, 0, 0, 0⟩ : Dt)) = _; rw [hl3, hD]; simp
      exact .inr (.inr (fin 13 t 0 0 0 (by rw [e]) (.inl (by decide)) (fun q => by omega) ⟨hpas.1, hpas.2, hD⟩ (fun _ => .inl (by have := pos1 12 rfl (by omega) ⟨by omega, by omega, by omega, fun q => by omega, fun _ => hD⟩; simp only [dtPos] at this ⊢; omega)) (fun q => by omega)))
    · have e : dtStep c l ⟨12, 1, t, ek, ea, eb⟩ 1 = (l, ⟨12, 1, t, 0, 0, 0⟩) := by show (l, (⟨bif mld l 3 != c.pt then 12 else 13, 1, t, 0, 0, 0⟩ : Dt)) = _; rw [hl3, show (D != c.pt) = true by simpa using hD]; rfl
      exact .inr (.inr (fin 12 t 0 0 0 (by rw [e]) (.inl (by decide)) (fun _ => by rw [e]; exact hl3) hpas (fun _ => .inr (.inr (.inr (.inr (.inr ⟨rfl, hD⟩))))) (fun q => by omega)))
  · exact .inr (.inr (fin 0 0 7 0 1 rfl (.inr (by decide)) (fun q => by omega) (.inr hpas) (fun q => absurd rfl q) (fun _ => by have := pos1 13 rfl (by omega) (by omega); simp only [dtPos] at this; omega)))

/-- Behind forty steps it is held up. -/
theorem w_end {c : Cfg} (h : CfgOk c) {wf : Nat → Int} {b D : Int} {l : List Int} {x : Dt} (I : WInv c wf b D 40 l x) : Stk c wf b D x ∧ Pas c wf b D x ∧ DtOk c x := by
  have hmu := h.mu
  have hb := pos_bd h I.ok
  refine ⟨?_, I.pas, I.ok⟩
  by_cases q : x.doing = 0
  · have := I.end_ (by omega) q; omega
  · rcases I.pos (by omega) q with r | r
    · omega
    · exact r

theorem EventW_c {w0 w : World} {cs : List (Chunk w0.heap.size)} (H : Has w0 w cs) (j : Nat) {xb mb : Nat} {x : Dt} (hj : cs[j]? = some (dtC _ xb mb x)) (ek ea eb : Int) (h1 : x.ek = ek) (h2 : x.ea = ea) (h3 : x.eb = eb) : Calls Try.prog 25 #[.pointer (some ⟨xb, 0, none⟩)] w fun e w' => e = .returned (.agg #[.int .i64 ek, .int .i64 0, .int .i64 ea, .int .i64 eb, .int .i64 0]) ∧ Below w.heap.size w w' := by
  subst h1 h2 h3; exact Event_c H j hj

def wfOf (acks : List Int) (i : Nat) : Int := if i < acks.length then acks.getD i 0 % 4 else 0
theorem wfOf_bd (acks : List Int) (i : Nat) : 0 ≤ wfOf acks i ∧ wfOf acks i ≤ 3 := by unfold wfOf; split <;> omega
theorem flg_true {wf : Nat → Int} {c : Cfg} {v t : Int} (h : ∀ j : Nat, (j : Int) < c.mu → v ≤ wf j) (ht : t ≤ v) {n : Nat} (hn : (n : Int) ≤ c.mu) : flg wf t n = true := (flg_iff wf t n).2 fun j hj => by have := h j (by omega); omega
theorem flg_false {wf : Nat → Int} {t : Int} {n j : Nat} (hj : j < n) (h : wf j < t) : flg wf t n = false := by
  cases e : flg wf t n with
  | false => rfl
  | true => have := (flg_iff wf t n).1 e j hj; omega

set_option maxRecDepth 100000 in
theorem waits_big (c : Cfg) (pa : Option Addr) (np pc : Nat) (wk dn : Int) (w : World) (h4 : (4 : Int) < (np : Int)) :
    Calls Try.prog 6 #[cfgV c, .slice pa np pc, .int .u8 wk, .int .u8 dn] w fun e w' => e = .returned (.bool true) ∧ Below w.heap.size w w' := by
  unfold cfgV cfgCells
  go_enter Try.func6, Try.ntmps6
  have G0 := (Has.nil w).blkNew (cfgCells c) 24
  go_wp2_with fail
  refine (awake21 _).mono ?_
  rintro e w1 ⟨rfl, q1⟩
  have G1 := G0.up q1
  obtain ⟨b0, b1, b2, b3, b4, b5, b6, b7, b8, b9, b10, b11, fb⟩ := row12 (G1.get 0 rfl)
  clear G0 q1
  go_wp2_with fail
  refine (small21_c c _).mono ?_
  rintro e w2 ⟨b, rfl, hb, q2⟩
  have G2 := G1.up q2
  clear G1 q2 b0 b1 b2 b3 b4 b5 b6 b7 b8 b9 b10 b11 fb
  have HB := Lib.hid hb
  clear hb
  cases b with
  | false =>
    go_wp2_with fail
    go_ret
    exact ⟨rfl, G2.below⟩
  | true =>
    go_wp2_with fail
    go_ret
    exact ⟨rfl, G2.below⟩

set_option maxRecDepth 100000 in
set_option maxHeartbeats 16000000 in
theorem waits_ok (c : Cfg) (pa : Option Addr) (pc : Nat) (acks : List Int) (wk dn : Int) (w : World) (hsl : Sl w [] .u8 (.slice pa acks.length pc) acks) (hws : ∀ x ∈ acks, 0 ≤ x ∧ x < 256) (k0 : 0 ≤ wk) (k1 : wk < 256) (d0' : 0 ≤ dn) (d1' : dn < 256) (h4 : ¬ (4 : Int) < (acks.length : Int)) :
    Calls Try.prog 6 #[cfgV c, .slice pa acks.length pc, .int .u8 wk, .int .u8 dn] w fun e w' => e = .returned (.bool true) ∧ Below w.heap.size w w' := by
  have HSL := Lib.hid hsl
  have HWS := Lib.hid hws
  have h4b : decide ((4 : Int) < (acks.length : Int)) = false := by simpa using h4
  clear hsl hws
  unfold cfgV cfgCells
  go_enter Try.func6, Try.ntmps6
  have G0 := (Has.nil w).blkNew (cfgCells c) 24
  go_wp2_with fail
  refine (awake21 _).mono ?_
  rintro e w1 ⟨rfl, q1⟩
  have G1 := G0.up q1
  obtain ⟨b0, b1, b2, b3, b4, b5, b6, b7, b8, b9, b10, b11, fb⟩ := row12 (G1.get 0 rfl)
  clear G0 q1
  go_wp2_with fail
  refine (small21_c c _).mono ?_
  rintro e w2 ⟨b, rfl, hb, q2⟩
  have G2 := G1.up q2
  clear G1 q2 b0 b1 b2 b3 b4 b5 b6 b7 b8 b9 b10 b11 fb
  have HB := Lib.hid hb
  clear hb
  cases b with
  | false =>
    go_wp2_with fail
    go_ret
    exact ⟨rfl, G2.below⟩
  | true =>
    have h : CfgOk c := (cfgOk_iff c).1 (HB.out rfl)
    obtain ⟨b0, b1, b2, b3, b4, b5, b6, b7, b8, b9, b10, b11, fb⟩ := row12 (G2.get 0 rfl)
    go_wp2_with fail
    refine (New_m G2 c h).mono ?_
    rintro e w3 ⟨mb, av, rv, rfl, G3⟩
    clear G2 b0 b1 b2 b3 b4 b5 b6 b7 b8 b9 b10 b11 fb
    obtain ⟨b0, b1, b2, b3, b4, b5, b6, b7, b8, b9, b10, b11, fb⟩ := row12 (G3.get 0 rfl)
    go_wp2_with fail
    refine (First_h G3 1 rfl h).mono ?_
    rintro e w7 ⟨g, gn, rfl, G7⟩
    have hfr := first_room h
    go_wp2_with fail
    refine (New_h G7 _ c.first (sl_of_ownN (G7.get 2 rfl)) (by omega)).mono ?_
    rintro e w8 ⟨sb, sg, rfl, G8'⟩
    have G8 := G8'.pick [0, 1, 3] (by decide) (by simp)
    clear G3 G7 G8' b0 b1 b2 b3 b4 b5 b6 b7 b8 b9 b10 b11 fb
    go_wp2_with fail
    refine (dtNew_h G8 mb).mono ?_
    rintro e w9 ⟨xb, rfl, G9⟩
    clear G8
    have hmu := h.mu
    have HF := Lib.hid hfr.1
    have HF1 := Lib.hid (first_lo h 1 (by decide) (by decide))
    have hpt := (cfg_bd h).pt
    clear hfr
    obtain ⟨wf, hwf⟩ : ∃ wf, wf = wfOf acks := ⟨_, rfl⟩
    have HWF := Lib.hid hwf
    clear hwf
    go_wp2_with fail
    go_loopw [15, 16, 17, 18, 19] (fun f1v f2v f3v iv u19 wr => ∃ (i : Nat) (n : Int), (i : Int) ≤ c.mu ∧ iv = .int .i64 i ∧ f1v = .bool (flg wf 1 i) ∧ f2v = .bool (flg wf 2 i) ∧ f3v = .bool (flg wf 3 i) ∧ Has w wr [blkC _ w.heap.size (cfgCells c) 24, mapC _ mb av rv c, storeC _ sb sg (ackW c c.first wf i) n, dtC _ xb mb d0]) (fun _ _ _ iv _ _ => 5 - (intOf iv).toNat)
    case atStart => exact ⟨0, _, by show (0 : Int) ≤ c.mu; omega, rfl, rfl, rfl, rfl, G9⟩
    case round =>
    obtain ⟨i, n, hi, rfl, rfl, rfl, rfl, G⟩ := hrel
    clear G9
    obtain ⟨b0, b1, b2, b3, b4, b5, b6, b7, b8, b9, b10, b11, fb⟩ := row12 (G.get 0 rfl)
    by_cases hlt : (i : Int) < c.mu
    · obtain ⟨W, hW⟩ : ∃ W, W = wf i := ⟨_, rfl⟩
      have WB : 0 ≤ W ∧ W ≤ 3 := by rw [hW, HWF.out]; exact wfOf_bd acks i
      have HW := Lib.hid hW
      clear hW
      obtain ⟨B1, hB1⟩ : ∃ B, flg wf 1 i = B := ⟨_, rfl⟩
      obtain ⟨B2, hB2⟩ : ∃ B, flg wf 2 i = B := ⟨_, rfl⟩
      obtain ⟨B3, hB3⟩ : ∃ B, flg wf 3 i = B := ⟨_, rfl⟩
      rw [hB1, hB2, hB3]
      have N1 : Hid (flg wf 1 (i + 1) = (B1 && decide (1 ≤ W))) := Lib.hid (by rw [← hB1, HW.out]; rfl)
      have N2 : Hid (flg wf 2 (i + 1) = (B2 && decide (2 ≤ W))) := Lib.hid (by rw [← hB2, HW.out]; rfl)
      have N3 : Hid (flg wf 3 (i + 1) = (B3 && decide (3 ≤ W))) := Lib.hid (by rw [← hB3, HW.out]; rfl)
      clear hB1 hB2 hB3
      have AW : Hid (mput (ackW c c.first wf i) (c.ackAt i) W = ackW c c.first wf (i + 1)) := Lib.hid (by rw [HW.out]; rfl)
      by_cases hp : i < acks.length
      · have hp' : (i : Int) < (acks.length : Int) := by omega
        obtain ⟨x, hx⟩ : ∃ x, acks[i]? = some x := ⟨acks[i], by simp [hp]⟩
        have hxb := HWS.out x (List.mem_of_getElem? hx)
        have hWx : x.tmod 4 = W := by
          rw [Int.tmod_eq_emod_of_nonneg hxb.1, HW.out, HWF.out]
          unfold wfOf
          rw [if_pos hp]
          simp only [List.getD_eq_getElem?_getD, hx, Option.getD_some]
        have hne : acks ≠ [] := by rintro rfl; simp at hp
        obtain ⟨cb, off, hab, hcb, -, hcell⟩ := sl_at HSL.out hne
        subst hab
        have hc : wr.cell? ⟨cb, off + i, none⟩ = some (.int .u8 x) := (G.below.cell (p := ⟨cb, off + i, none⟩) hcb).trans (hcell i _ hx)
        have hWx2 : x % 4 = W := by rw [← hWx, Int.tmod_eq_emod_of_nonneg hxb.1]
        clear hcell hne hx hcb
        go_wp2_with fail
        refine (Ack_q (G.mAt 1 rfl h) i).mono ?_
        rintro e t1 ⟨rfl, e1, rfl⟩
        go_wp2_with fail
        refine (Put_h (G.drewN _) 2 rfl _ W).mono ?_
        rw [AW.out]
        rintro e t2 ⟨rfl, G2⟩
        cases B1 <;> cases B2 <;> cases B3 <;>
        (go_wp2_with fail
         go_roundw
         case rel => exact ⟨i + 1, _, by omega, by go_num, by rw [N1.out]; simp, by rw [N2.out]; simp, by rw [N3.out]; simp, G2⟩
         case measure => simp [intOf]; omega)
      · have hp' : ¬ (i : Int) < (acks.length : Int) := by omega
        have hW0 : W = 0 := by rw [HW.out, HWF.out]; unfold wfOf; rw [if_neg hp]
        subst hW0
        go_wp2_with fail
        refine (Ack_q (G.mAt 1 rfl h) i).mono ?_
        rintro e t1 ⟨rfl, e1, rfl⟩
        go_wp2_with fail
        refine (Put_h (G.drewN _) 2 rfl _ 0).mono ?_
        rw [AW.out]
        rintro e t2 ⟨rfl, G2⟩
        cases B1 <;> cases B2 <;> cases B3 <;>
        (go_wp2_with fail
         go_roundw
         case rel => exact ⟨i + 1, _, by omega, by go_num, by rw [N1.out]; simp, by rw [N2.out]; simp, by rw [N3.out]; simp, G2⟩
         case measure => simp [intOf]; omega)
    have hge : ¬ (i : Int) < c.mu := hlt
    have hin : i = c.mu.toNat := by omega
    have hnmu : Hid ((i : Int) = c.mu) := Lib.hid (by omega)
    obtain ⟨b, hb⟩ : ∃ b, wk % 2 = b := ⟨_, rfl⟩
    have hbb : 0 ≤ b ∧ b ≤ 1 := by omega
    have rk2 : wk.tmod 2 = b := by rw [Int.tmod_eq_emod_of_nonneg k0]; exact hb
    obtain ⟨D, hD⟩ : ∃ D, dn % (c.pt + 1) = D := ⟨_, rfl⟩
    have m0 := Int.emod_nonneg dn (by omega : c.pt + 1 ≠ 0)
    have m1 := Int.emod_lt_of_pos dn (by omega : 0 < c.pt + 1)
    rw [hD] at m0 m1
    have rd2 : dn.tmod (c.pt + 1) = D := by rw [Int.tmod_eq_emod_of_nonneg d0']; exact hD
    have AK : Hid (∀ j : Nat, (j : Int) < c.mu → mld (ackW c c.first wf i) (c.ackAt j) = wf j) := Lib.hid (fun j hj => ackW_at HF.out wf i (by omega) j (by omega))
    have AL : Hid (6 + c.mu ≤ ((ackW c c.first wf i).length : Int)) := Lib.hid (by rw [ackW_len]; exact HF.out)
    clear hin
    obtain ⟨B1, hB1⟩ : ∃ B, flg wf 1 i = B := ⟨_, rfl⟩
    obtain ⟨B2, hB2⟩ : ∃ B, flg wf 2 i = B := ⟨_, rfl⟩
    obtain ⟨B3, hB3⟩ : ∃ B, flg wf 3 i = B := ⟨_, rfl⟩
    rw [hB1, hB2, hB3]
    have HB1 := Lib.hid hB1
    have HB2 := Lib.hid hB2
    have HB3 := Lib.hid hB3
    clear hB1 hB2 hB3
    generalize ackW c c.first wf i = l0 at G AK AL
    go_wp2_with fail
    refine (Work_q (G.mAt 1 rfl h)).mono ?_
    rintro e t1 ⟨rfl, e1, rfl⟩
    go_wp2_with fail
    refine (Put_h (G.drewN _) 2 rfl 1 b).mono ?_
    rintro e t2 ⟨rfl, G2⟩
    have I0 : Hid (WInv c wf b D 0 (mput l0 1 b) d0) := Lib.hid ⟨dtOk0 h, by rw [mput_length]; exact AL.out, fun j hj => by rw [mld_mput_ne _ _ _ _ (by rw [ackAt_is (j : Int) (by omega) hj]; omega)]; exact AK.out j hj, mld_mput_same (by have := AL.out; omega) _, (fun q => by cases q), .inl rfl, fun _ => rfl, (fun q => by omega), (fun q => by omega), (fun q => by omega)⟩
    clear b0 b1 b2 b3 b4 b5 b6 b7 b8 b9 b10 b11 fb
    go_wp2_with fail
    go_loopw [20] (fun kv wr => ∃ (k : Nat) (l : List Int) (n : Int) (x : Dt), k ≤ 40 ∧ kv = .int .i64 k ∧ Hid (WInv c wf b D k l x) ∧ Has w wr [blkC _ w.heap.size (cfgCells c) 24, mapC _ mb av rv c, storeC _ sb sg l n, dtC _ xb mb x]) (fun kv _ => 41 - (intOf kv).toNat)
    case atStart => exact ⟨0, _, _, _, by omega, rfl, I0, G2⟩
    case round =>
    obtain ⟨k, l, n2, x, hk, rfl, I, G3⟩ := hrel
    clear G G2 I0 AK AL
    by_cases hl : k < 40
    · have hl' : (k : Int) < 40 := by omega
      have cy99 : x.cy < 999999 := by
        by_cases q : k = 0
        · rw [I.out.beg q]; decide
        · rw [I.out.cy (by omega)]; decide
      go_wp2_with fail
      refine (dtStep_h G3 2 3 1 rfl rfl (by decide) h x 1 rfl I.out.ok cy99 (by decide)).mono ?_
      rintro e t3 ⟨rfl, G4'⟩
      have J := Lib.hid (w_step h I.out)
      generalize hs : dtStep c l x 1 = s at G4' J
      have G4 : Has w t3 [blkC _ w.heap.size (cfgCells c) 24, mapC _ mb av rv c, storeC _ sb sg s.1 _, dtC _ xb mb s.2] := G4'
      clear G4' hs cy99
      rcases J.out with ⟨j1, j2, j3, j4, j5, j6⟩ | ⟨j1, j2, j3, j4, j5⟩ | ⟨j1, j2, j5⟩
      · have T1 : B1 = true := by rw [← HB1.out]; exact flg_true j4 (by decide) (by rw [hnmu.out]; exact Int.le_refl _)
        have T2 : B2 = true := by rw [← HB2.out]; exact flg_true j4 (by decide) (by rw [hnmu.out]; exact Int.le_refl _)
        have T3 : B3 = true := by rw [← HB3.out]; exact flg_true j4 (by decide) (by rw [hnmu.out]; exact Int.le_refl _)
        subst T1 T2 T3
        have J1 := Lib.hid j1
        obtain ⟨eb, heb⟩ : ∃ eb, s.2.eb = eb := ⟨_, rfl⟩
        have hbz : (b == 0) = true := by rw [j5]; rfl
        have hDz : (D == c.pt) = true := by simpa using j6
        clear j1 j4 j5 j6 J
        go_wp2_with fail
        refine (EventW_c G4 3 rfl 7 1 eb j2 j3 heb).mono ?_
        rintro e t4 ⟨rfl, q4⟩
        clear j2 j3 heb
        go_wp2_with fail
        refine (Cycle_q (G4.up q4) 3 rfl).mono ?_
        rw [J1.out]
        rintro e t5 ⟨rfl, e5, rfl⟩
        go_wp2_with fail
        have hw1 : IntKind.i64.wrap (c.pt + 1) = c.pt + 1 := wrapi64_id _ (by omega) (by omega)
        have hwd : IntKind.i64.wrap dn = dn := wrapi64_id _ (by omega) (by omega)
        have hnz : ¬ (c.pt + 1 = 0) := by omega
        have hnzb : (c.pt + 1 == 0) = false := by simpa using hnz
        go_region_held3 (fun w' => True) (trivial) (first | (go_at_call 20; refine (Parts_q (((G4.up q4).drewN _).mAt 1 rfl h)).mono ?_; rintro e w' ⟨rfl, d, rfl⟩))
        go_wp2_with fail
        refine (Cycle_q ((G4.up q4).drewN _) 3 rfl).mono ?_
        rw [J1.out]
        rintro e t6 ⟨rfl, e6, rfl⟩
        go_wp2_with fail
        go_ret
        exact ⟨rfl, ((G4.up q4).drewN _).below⟩
      · have J1 := Lib.hid j1
        have J5 := Lib.hid j5
        clear j1 j5 J
        go_wp2_with fail
        refine (EventW_c G4 3 rfl 7 5 1 j2 j3 j4).mono ?_
        rintro e t4 ⟨rfl, q4⟩
        clear j2 j3 j4
        have G5 := G4.up q4
        go_wp2_with fail
        refine (Done_q (G5.mAt 1 rfl h)).mono ?_
        rintro e t5 ⟨rfl, e5, rfl⟩
        go_wp2_with fail
        refine (Parts_q ((G5.drewN _).mAt 1 rfl h)).mono ?_
        rintro e t6 ⟨rfl, e6, rfl⟩
        go_wp2_with fail
        refine (Put_h (G5.drewN _) 2 rfl 3 D).mono ?_
        rintro e t7 ⟨rfl, G6⟩
        go_wp2_with fail
        refine (Cycle_q G6 3 rfl).mono ?_
        rw [J1.out]
        rintro e t8 ⟨rfl, e8, rfl⟩
        have G7 := G6.drewN e8
        go_wp2_with fail
        go_roundw
        case rel => exact ⟨k + 1, _, _, _, by omega, by go_num, J5, G7⟩
        case measure => simp [intOf]; omega
      · have J1 := Lib.hid j1
        have J5 := Lib.hid j5
        obtain ⟨ek, hek⟩ : ∃ v, s.2.ek = v := ⟨_, rfl⟩
        obtain ⟨ea, hea⟩ : ∃ v, s.2.ea = v := ⟨_, rfl⟩
        obtain ⟨eb, heb⟩ : ∃ v, s.2.eb = v := ⟨_, rfl⟩
        rw [hek, hea] at j2
        have jj : (ek == 7) = false ∨ ((ek == 7) = true ∧ (ea == 5) = false) := by
          by_cases g : ek = 7
          · exact .inr ⟨by simpa using g, j2.elim (fun r => absurd g r) (fun r => by simpa using r)⟩
          · exact .inl (by simpa using g)
        clear j1 j2 j5 J
        go_wp2_with fail
        refine (EventW_c G4 3 rfl ek ea eb hek hea heb).mono ?_
        rintro e t4 ⟨rfl, q4⟩
        clear hek hea heb
        have G5 := G4.up q4
        rcases jj with g | ⟨g, g2⟩
        · go_wp2_with fail
          refine (Cycle_q G5 3 rfl).mono ?_
          rw [J1.out]
          rintro e t8 ⟨rfl, e8, rfl⟩
          have G7 := G5.drewN e8
          go_wp2_with fail
          go_roundw
          case rel => exact ⟨k + 1, _, _, _, by omega, by go_num, J5, G7⟩
          case measure => simp [intOf]; omega
        · go_wp2_with fail
          refine (Cycle_q G5 3 rfl).mono ?_
          rw [J1.out]
          rintro e t8 ⟨rfl, e8, rfl⟩
          have G7 := G5.drewN e8
          go_wp2_with fail
          go_roundw
          case rel => exact ⟨k + 1, _, _, _, by omega, by go_num, J5, G7⟩
          case measure => simp [intOf]; omega
    · obtain rfl : k = 40 := by omega
      obtain ⟨hs, hp, ho⟩ := w_end h I.out
      have CY : Hid (x.cy = 1) := Lib.hid (I.out.cy (by decide))
      clear I
      have ho6 := ho.t2
      have ho4 := ho.t0
      clear ho
      obtain ⟨d, hd⟩ : ∃ d : Nat, x.doing = d := ⟨_, rfl⟩
      have HD := Lib.hid hd
      have tn : x.turn < c.mu → x.turn.toNat < i := fun q => by have := hnmu.out; omega
      have im := hnmu.out
      have key : (B1 = false ∧ B2 = false ∧ B3 = false ∧ d = 1) ∨ (B1 = true ∧ B2 = false ∧ B3 = false ∧ d = 3) ∨ (B1 = true ∧ B2 = true ∧ B3 = false ∧ d = 5) ∨ (B1 = true ∧ B2 = true ∧ B3 = true ∧ d = 7 ∧ b ≠ 0) ∨ (B1 = true ∧ B2 = true ∧ B3 = true ∧ d = 12 ∧ b = 0 ∧ D ≠ c.pt) := by
        rw [← HB1.out, ← HB2.out, ← HB3.out]
        obtain ⟨xd, xcy, xt, xek, xea, xeb⟩ := x
        dsimp only at hd ho6 ho4 tn
        subst hd
        rcases hs with ⟨r, r2⟩ | ⟨r, r2⟩ | ⟨r, r2⟩ | ⟨r, r2⟩ | ⟨r, r2⟩ <;> dsimp only at r r2 <;> subst r
        · have t1 := tn (ho6 (by omega))
          exact .inl ⟨flg_false t1 (by omega), flg_false t1 (by omega), flg_false t1 (by omega), rfl⟩
        · have t1 := tn (ho6 (by omega))
          exact .inr (.inl ⟨flg_true hp.1 (by decide) (by omega), flg_false t1 (by omega), flg_false t1 (by omega), rfl⟩)
        · have t1 := tn (ho6 (by omega))
          exact .inr (.inr (.inl ⟨flg_true hp.1 (by decide) (by omega), flg_true hp.1 (by decide) (by omega), flg_false t1 (by omega), rfl⟩))
        · exact .inr (.inr (.inr (.inl ⟨flg_true hp (by decide) (by omega), flg_true hp (by decide) (by omega), flg_true hp (by decide) (by omega), rfl, r2⟩)))
        · exact .inr (.inr (.inr (.inr ⟨flg_true hp.1 (by decide) (by omega), flg_true hp.1 (by decide) (by omega), flg_true hp.1 (by decide) (by omega), rfl, hp.2, r2⟩)))
      clear hs hp ho6 ho4 hd tn im HB1 HB2 HB3
      rcases key with ⟨rfl, rfl, rfl, rfl⟩ | ⟨rfl, rfl, rfl, rfl⟩ | ⟨rfl, rfl, rfl, rfl⟩ | ⟨rfl, rfl, rfl, rfl, hb0⟩ | ⟨rfl, rfl, rfl, rfl, hb0, hDp⟩
      · go_wp2_with fail
        go_quiet (fail)
        go_wp2_with fail
        refine (DoingD_q (G3.drewN _) 3 rfl 1 (by rw [HD.out]; rfl)).mono ?_
        rintro e t5 ⟨rfl, e5, rfl⟩
        go_wp2_with fail
        refine (Cycle_q (G3.drewN _) 3 rfl).mono ?_
        rw [CY.out]
        rintro e t6 ⟨rfl, e6, rfl⟩
        go_wp2_with fail
        go_ret
        exact ⟨rfl, (G3.drewN _).below⟩
      · go_wp2_with fail
        go_quiet (fail)
        go_wp2_with fail
        refine (DoingD_q (G3.drewN _) 3 rfl 3 (by rw [HD.out]; rfl)).mono ?_
        rintro e t5 ⟨rfl, e5, rfl⟩
        go_wp2_with fail
        refine (Cycle_q (G3.drewN _) 3 rfl).mono ?_
        rw [CY.out]
        rintro e t6 ⟨rfl, e6, rfl⟩
        go_wp2_with fail
        go_ret
        exact ⟨rfl, (G3.drewN _).below⟩
      · go_wp2_with fail
        go_quiet (fail)
        go_wp2_with fail
        refine (DoingD_q (G3.drewN _) 3 rfl 5 (by rw [HD.out]; rfl)).mono ?_
        rintro e t5 ⟨rfl, e5, rfl⟩
        go_wp2_with fail
        refine (Cycle_q (G3.drewN _) 3 rfl).mono ?_
        rw [CY.out]
        rintro e t6 ⟨rfl, e6, rfl⟩
        go_wp2_with fail
        go_ret
        exact ⟨rfl, (G3.drewN _).below⟩
      · have hbz : (b == 0) = false := by simpa using hb0
        go_wp2_with fail
        go_quiet (fail)
        go_wp2_with fail
        refine (DoingD_q (G3.drewN _) 3 rfl 7 (by rw [HD.out]; rfl)).mono ?_
        rintro e t5 ⟨rfl, e5, rfl⟩
        go_wp2_with fail
        refine (Cycle_q (G3.drewN _) 3 rfl).mono ?_
        rw [CY.out]
        rintro e t6 ⟨rfl, e6, rfl⟩
        go_wp2_with fail
        go_ret
        exact ⟨rfl, (G3.drewN _).below⟩
      · have hbz : (b == 0) = true := by simpa using hb0
        have hDz : (D == c.pt) = false := by simpa using hDp
        have hw1 : IntKind.i64.wrap (c.pt + 1) = c.pt + 1 := wrapi64_id _ (by omega) (by omega)
        have hwd : IntKind.i64.wrap dn = dn := wrapi64_id _ (by omega) (by omega)
        have hnz : ¬ (c.pt + 1 = 0) := by omega
        have hnzb : (c.pt + 1 == 0) = false := by simpa using hnz
        clear hb0 hDp
        go_wp2_with fail
        go_region_held3 (fun w' => True) (trivial) (first | (go_at_call 20; refine (Parts_q ((G3.drewN _).mAt 1 rfl h)).mono ?_; rintro e w' ⟨rfl, d, rfl⟩))
        go_wp2_with fail
        refine (DoingD_q (G3.drewN _) 3 rfl 12 (by rw [HD.out]; rfl)).mono ?_
        rintro e t5 ⟨rfl, e5, rfl⟩
        go_wp2_with fail
        refine (Cycle_q (G3.drewN _) 3 rfl).mono ?_
        rw [CY.out]
        rintro e t6 ⟨rfl, e6, rfl⟩
        go_wp2_with fail
        go_ret
        exact ⟨rfl, (G3.drewN _).below⟩

theorem walk_DetectorWaits (c0 c1 c2 c3 c4 mr mu dq ch bf rt sw : Int) (a : Option Addr) (len cap : Nat) (zs : List Int) (wk dn : Int) (w : World) (hr : IsRow .u8 w a len cap zs) (k0 : 0 ≤ wk) (k1 : wk < 256) (d0 : 0 ≤ dn) (d1 : dn < 256) :
    Calls Try.prog 6 #[.agg #[.int .i64 c0, .int .i64 c1, .int .i64 c2, .int .i64 c3, .int .i64 c4, .int .i64 mr, .int .i64 mu, .int .i64 dq, .int .i64 ch, .int .i64 bf, .int .i64 rt, .int .i64 sw], .slice a len cap, .int .u8 wk, .int .u8 dn] w fun e w' => e = .returned (.bool true) ∧ Below w.heap.size w w' := by
  obtain ⟨l, rfl, hsl, hwf⟩ := row_opens hr
  by_cases h4 : (4 : Int) < (l.length : Int)
  · exact waits_big ⟨c0, c1, c2, c3, c4, mr, mu, dq, ch, bf, rt, sw⟩ a l.length cap wk dn w h4
  · exact waits_ok ⟨c0, c1, c2, c3, c4, mr, mu, dq, ch, bf, rt, sw⟩ a cap l wk dn w hsl (fun x hx => by have := Go.bounds_u8 (hwf x hx); omega) k0 k1 d0 d1 h4

end Go.Proofs.Ytgodnmcfbbchoaa
