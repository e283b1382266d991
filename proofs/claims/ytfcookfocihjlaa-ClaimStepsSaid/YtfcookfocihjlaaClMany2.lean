/- ClaimMany in plain Lean: what is counted in the end. -/
import Derived.Test.YtfcookfocihjlaaLaw12c
set_option linter.unusedVariables false
set_option linter.unusedSimpArgs false
namespace Go.Proofs.Ytfcookfocihjlaa
open Go.ChangeShapes Go.WideShapes Go.ChangeAt Go.RowKit

def wonOf (v : Int) (m : Cl) : Int := if m.won = true ∧ m.v = v then 1 else 0
def cntV (v : Int) (ms : List Cl) : Int := lsum (ms.map (wonOf v))

theorem cnt_zero (v : Int) : ∀ ms : List Cl, (∀ (j : Nat) m, ms[j]? = some m → wonOf v m = 0) → cntV v ms = 0
  | [], _ => rfl
  | m :: ms, h => by
    have h0 := h 0 m rfl
    have := cnt_zero v ms fun j x hx => h (j + 1) x (by simpa using hx)
    simp only [cntV, List.map_cons, lsum] at this ⊢
    omega
theorem cnt_one (v : Int) : ∀ (ms : List Cl) (j0 : Nat), j0 < ms.length → (∀ (j : Nat) m, ms[j]? = some m → wonOf v m = if j = j0 then 1 else 0) → cntV v ms = 1
  | [], _, h, _ => by simp at h
  | m :: ms, 0, _, h => by
    have h0 := h 0 m rfl
    have := cnt_zero v ms fun j x hx => by rw [h (j + 1) x (by simpa using hx)]; simp
    simp only [cntV, List.map_cons, lsum] at this ⊢
    rw [if_pos rfl] at h0
    omega
  | m :: ms, j0 + 1, hl, h => by
    have h0 : wonOf v m = 0 := by rw [h 0 m rfl]; simp
    have := cnt_one v ms j0 (by simpa using hl) fun j x hx => by
      rw [h (j + 1) x (by simpa using hx)]
      by_cases e : j = j0
      · rw [if_pos e, if_pos (by rw [e])]
      · rw [if_neg e, if_neg (fun q => e (by omega))]
    simp only [cntV, List.map_cons, lsum] at this ⊢
    omega
theorem cnt_bd (v : Int) : ∀ ms : List Cl, 0 ≤ cntV v ms ∧ cntV v ms ≤ ms.length
  | [] => by simp [cntV, lsum]
  | m :: ms => by
    have h2 := cnt_bd v ms
    have h1 : 0 ≤ wonOf v m ∧ wonOf v m ≤ 1 := by unfold wonOf; split <;> omega
    simp only [cntV, List.map_cons, lsum, List.length_cons] at h2 ⊢
    omega
theorem cnt_all : ∀ ms : List Cl, (∀ (j : Nat) m, ms[j]? = some m → m.pc = 0 ∧ 1 ≤ m.v ∧ m.v ≤ 4) → holds ms = cntV 1 ms + cntV 2 ms + cntV 3 ms + cntV 4 ms
  | [], _ => rfl
  | m :: ms, h => by
    obtain ⟨h0, h1, h2⟩ := h 0 m rfl
    have ih := cnt_all ms fun j x hx => h (j + 1) x (by simpa using hx)
    have hh := hold_end h0
    have hv : m.v = 1 ∨ m.v = 2 ∨ m.v = 3 ∨ m.v = 4 := by omega
    have : hold m = wonOf 1 m + wonOf 2 m + wonOf 3 m + wonOf 4 m := by
      rw [hh]; unfold wonOf
      by_cases q : m.won = true
      · rcases hv with e | e | e | e <;> simp [q, e]
      · simp [q]
    simp only [holds, cntV, List.map_cons, lsum] at ih ⊢
    omega

/-- In the end each node that was tried and was not marked is marked by one, and no other. -/
theorem many_end {c : Cfg} {cy : Int} {old : Int → Int} {len : Nat} {l : List Int} {ms : List Cl} {W : Int → Option Nat} (I : IM c cy old len l ms W) (hp : ∀ (j : Nat) m, ms[j]? = some m → m.pc = 0) (v : Int) :
    (W v ≠ none ∧ cntV v ms = 1 ∧ (∃ (j : Nat) (m : Cl), ms[j]? = some m ∧ m.v = v) ∧ old v < cy) ∨ (W v = none ∧ cntV v ms = 0 ∧ ((∃ (j : Nat) (m : Cl), ms[j]? = some m ∧ m.v = v) → cy ≤ old v)) := by
  by_cases hW : W v = none
  · refine .inr ⟨hW, cnt_zero v ms fun j m hm => ?_, fun ⟨j, m, hm, hv⟩ => ?_⟩
    · unfold wonOf
      rw [if_neg]
      rintro ⟨hw, hv⟩
      have := (I.one j m hm).won.1 hw
      rw [hv, hW] at this; cases this
    · have M := I.one j m hm
      rw [hv] at M
      by_cases hw : m.won = true
      · have := M.won.1 hw
        rw [hW] at this; cases this
      · rcases M.nil (hp j m hm) (by simpa using hw) with q | q
        · exact q
        · exact absurd hW q
  · obtain ⟨j0, hj0⟩ := Option.ne_none_iff_exists'.1 hW
    obtain ⟨m0, hm0, hv0⟩ := I.rng v j0 hj0
    refine .inl ⟨hW, cnt_one v ms j0 (List.getElem?_eq_some_iff.1 hm0).1 fun j m hm => ?_, ⟨j0, m0, hm0, hv0⟩, I.wlt v hW⟩
    have M := I.one j m hm
    unfold wonOf
    by_cases e : j = j0
    · subst e
      rw [hm0] at hm; cases hm
      rw [if_pos rfl, if_pos ⟨M.won.2 (by rw [hv0]; exact hj0), hv0⟩]
    · rw [if_neg e, if_neg]
      rintro ⟨hw, hv⟩
      have := M.won.1 hw
      rw [hv, hj0] at this
      cases this; exact e rfl

theorem apart4 : Apart (c12 4) (l12 4).length := by
  have nd : (c12 4).nd = 4 := by decide +kernel
  have a1 : 2 ≤ (c12 4).nodeAt 1 2 ∧ (c12 4).nodeAt 1 2 < (c12 4).nodeAt 2 2 ∧ (c12 4).nodeAt 2 2 < (c12 4).nodeAt 3 2 ∧ (c12 4).nodeAt 3 2 < (c12 4).nodeAt 4 2 ∧ (c12 4).nodeAt 4 2 < (l12 4).length := by decide +kernel
  refine ⟨fun v h1 h2 => ?_, fun v u h1 h2 h3 h4 hne => ?_, by decide +kernel⟩
  · have : v = 1 ∨ v = 2 ∨ v = 3 ∨ v = 4 := by omega
    rcases this with rfl | rfl | rfl | rfl <;> omega
  · have e1 : v = 1 ∨ v = 2 ∨ v = 3 ∨ v = 4 := by omega
    have e2 : u = 1 ∨ u = 2 ∨ u = 3 ∨ u = 4 := by omega
    rcases e1 with rfl | rfl | rfl | rfl <;> rcases e2 with rfl | rfl | rfl | rfl <;> omega

/-- The node that is tried, by its byte. -/
def nodeOf (x : Int) : Int := x % 4 + 1
theorem nodeOf_bd (x : Int) : 1 ≤ nodeOf x ∧ nodeOf x ≤ 4 := by unfold nodeOf; omega
def ms0 (cy : Int) (ns : List Int) : List Cl := ns.map fun x => ⟨nodeOf x, cy, 0, false, 1⟩

theorem ms0_at {cy : Int} {ns : List Int} {j : Nat} {m : Cl} (h : (ms0 cy ns)[j]? = some m) : ∃ x, ns[j]? = some x ∧ m = ⟨nodeOf x, cy, 0, false, 1⟩ := by
  unfold ms0 at h
  rw [List.getElem?_map] at h
  cases e : ns[j]? with
  | none => rw [e] at h; cases h
  | some x => rw [e] at h; cases h; exact ⟨x, rfl, rfl⟩

theorem im4_0 (cy : Int) (l : List Int) (ns : List Int) (hl : l.length = (l12 4).length) (hw : mld l 1 = 0) : IM (c12 4) cy (fun v => mld l ((c12 4).nodeAt v 2)) (l12 4).length l (ms0 cy ns) (fun _ => none) := by
  have nd : (c12 4).nd = 4 := by decide +kernel
  refine ⟨hl, ?_, fun v v1 v2 => by rw [if_pos rfl], fun v h => absurd rfl h, fun j m hm => ?_, fun j m hm => ?_, fun v j h => by cases h⟩
  · rw [hw, holds_zero]
    intro j m hm
    obtain ⟨x, hx, rfl⟩ := ms0_at hm
    simp [hold]
  · obtain ⟨x, hx, rfl⟩ := ms0_at hm
    have := nodeOf_bd x
    rw [nd]; exact this
  · obtain ⟨x, hx, rfl⟩ := ms0_at hm
    exact ⟨rfl, by dsimp only; omega, fun h => by dsimp only at h; omega, fun h => by dsimp only at h; omega, fun h => by dsimp only at h; omega, ⟨(fun h => by cases h), (fun h => by cases h)⟩, (fun h => by cases h)⟩

/-- Each machine marks its own byte's node. -/
def NodesOf (ns : List Int) (ms : List Cl) : Prop := ms.length = ns.length ∧ ∀ (j : Nat) m, ms[j]? = some m → ∃ x, ns[j]? = some x ∧ m.v = nodeOf x
theorem nodesOf_0 (cy : Int) (ns : List Int) : NodesOf ns (ms0 cy ns) := ⟨by simp [ms0], fun j m hm => by
  obtain ⟨x, hx, rfl⟩ := ms0_at hm
  exact ⟨x, hx, rfl⟩⟩
theorem nodesOf_set {ns : List Int} {ms : List Cl} (h : NodesOf ns ms) (c : Cfg) (l : List Int) (j : Nat) (m : Cl) (hj : ms[j]? = some m) : NodesOf ns (ms.set j (clStep c l m).2) := by
  refine ⟨by rw [List.length_set]; exact h.1, fun i x hx => ?_⟩
  by_cases e : j = i
  · subst e
    rw [List.getElem?_set_self (List.getElem?_eq_some_iff.1 hj).1] at hx
    cases hx
    rw [clStep_v]; exact h.2 j m hj
  · rw [List.getElem?_set_ne e] at hx; exact h.2 i x hx

/-- What is wanted of each node: it was tried, and was not marked. -/
def wantF (cy : Int) (old : Int → Int) (ns : List Int) : List Bool := (List.range 5).map fun (v : Nat) => ns.any (fun x => decide (nodeOf x = v)) && decide (old v < cy)
theorem wantF_len (cy : Int) (old : Int → Int) (ns : List Int) : (wantF cy old ns).length = 5 := by simp [wantF]
theorem wantF_at (cy : Int) (old : Int → Int) (ns : List Int) (v : Nat) (hv : v < 5) : (wantF cy old ns)[v]? = some (ns.any (fun x => decide (nodeOf x = v)) && decide (old v < cy)) := by
  unfold wantF; rw [List.getElem?_map, List.getElem?_range hv]; rfl
theorem wantF_0 (cy : Int) (old : Int → Int) : wantF cy old [] = List.replicate 5 false := rfl
theorem wantF_snoc (cy : Int) (old : Int → Int) (ns : List Int) (x : Int) (v : Nat) (hv : nodeOf x = v) (h5 : v < 5) : wantF cy old (ns ++ [x]) = (wantF cy old ns).set v (decide (old v < cy)) := by
  apply List.ext_getElem?
  intro i
  by_cases hi : i < 5
  · rw [wantF_at _ _ _ i hi]
    by_cases e : v = i
    · subst e
      rw [List.getElem?_set_self (by rw [wantF_len]; exact hi), List.any_append]
      simp [hv]
    · rw [List.getElem?_set_ne e, wantF_at _ _ _ i hi, List.any_append]
      have : ¬ nodeOf x = (i : Int) := by rw [hv]; omega
      simp [this]
  · rw [List.getElem?_eq_none (by rw [wantF_len]; omega), List.getElem?_eq_none (by rw [List.length_set, wantF_len]; omega)]

/-- How often each node was won. -/
def wonF (ms : List Cl) : List Int := (List.range 5).map fun (v : Nat) => cntV v ms
theorem wonF_len (ms : List Cl) : (wonF ms).length = 5 := by simp [wonF]
theorem wonF_at (ms : List Cl) (v : Nat) (hv : v < 5) : (wonF ms)[v]? = some (cntV v ms) := by
  unfold wonF; rw [List.getElem?_map, List.getElem?_range hv]; rfl
theorem cnt_app (v : Int) (ms : List Cl) (m : Cl) : cntV v (ms ++ [m]) = cntV v ms + wonOf v m := by
  unfold cntV; rw [List.map_append, lsum_app]; simp [lsum]
theorem wonF_no (ms : List Cl) (m : Cl) (h : m.won = false) : wonF (ms ++ [m]) = wonF ms := by
  unfold wonF
  apply List.map_congr_left
  intro v _
  rw [cnt_app]; unfold wonOf; rw [if_neg (by rw [h]; simp)]; omega
theorem wonF_yes (ms : List Cl) (m : Cl) (h : m.won = true) (v : Nat) (hv : m.v = v) (h5 : v < 5) : wonF (ms ++ [m]) = (wonF ms).set v (cntV v ms + 1) := by
  apply List.ext_getElem?
  intro i
  by_cases hi : i < 5
  · rw [wonF_at _ i hi]
    by_cases e : v = i
    · subst e
      rw [List.getElem?_set_self (by rw [wonF_len]; exact hi), cnt_app]
      unfold wonOf; rw [if_pos ⟨h, hv⟩]
    · rw [List.getElem?_set_ne e, wonF_at _ i hi, cnt_app]
      unfold wonOf; rw [if_neg (by rintro ⟨_, q⟩; rw [hv] at q; omega)]; simp
  · rw [List.getElem?_eq_none (by rw [wonF_len]; omega), List.getElem?_eq_none (by rw [List.length_set, wonF_len]; omega)]
theorem wonF_0 : wonF [] = List.replicate 5 0 := rfl

/-- What is found of a node in the end. -/
theorem many_v {cy : Int} {old : Int → Int} {len : Nat} {l : List Int} {ms : List Cl} {W : Int → Option Nat} {ns : List Int} (I : IM (c12 4) cy old len l ms W) (hp : ∀ (j : Nat) m, ms[j]? = some m → m.pc = 0) (hn : NodesOf ns ms) (v : Nat) (h1 : 1 ≤ v) (h4 : v ≤ 4) :
    ((ns.any (fun x => decide (nodeOf x = v)) && decide (old v < cy)) = true ∧ cntV v ms = 1 ∧ mld l ((c12 4).nodeAt v 2) = cy) ∨ ((ns.any (fun x => decide (nodeOf x = v)) && decide (old v < cy)) = false ∧ cntV v ms = 0 ∧ mld l ((c12 4).nodeAt v 2) = old v) := by
  have nd : (c12 4).nd = 4 := by decide +kernel
  have hm := I.mark v (by omega) (by omega)
  have tried : ns.any (fun x => decide (nodeOf x = v)) = true ↔ ∃ (j : Nat) (m : Cl), ms[j]? = some m ∧ m.v = v := by
    rw [List.any_eq_true]
    constructor
    · rintro ⟨x, hx, e⟩
      obtain ⟨j, hj⟩ := List.mem_iff_getElem?.1 hx
      have hjl := (List.getElem?_eq_some_iff.1 hj).1
      have : j < ms.length := by rw [hn.1]; exact hjl
      obtain ⟨y, hy, e2⟩ := hn.2 j ms[j] (by simp [this])
      rw [hj] at hy; cases hy
      exact ⟨j, ms[j], by simp [this], by rw [e2]; simpa using e⟩
    · rintro ⟨j, m, hm, e⟩
      obtain ⟨x, hx, e2⟩ := hn.2 j m hm
      exact ⟨x, List.mem_of_getElem? hx, by simp; rw [← e2]; exact e⟩
  rcases many_end I hp v with ⟨a, b, d, e⟩ | ⟨a, b, d⟩
  · rw [if_neg a] at hm
    exact .inl ⟨by rw [tried.2 d]; simpa using e, b, hm⟩
  · rw [if_pos a] at hm
    refine .inr ⟨?_, b, hm⟩
    by_cases t : ns.any (fun x => decide (nodeOf x = v)) = true
    · have := d (tried.1 t)
      rw [t]; simp; omega
    · simp only [Bool.not_eq_true] at t
      rw [t]; rfl

end Go.Proofs.Ytfcookfocihjlaa
