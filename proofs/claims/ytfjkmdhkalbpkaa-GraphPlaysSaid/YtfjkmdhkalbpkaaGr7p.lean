/- The graph that mutators see, in plain Lean: what each operation makes of it, and which nodes can be come to. -/
import Derived.Lib.Hide
set_option linter.unusedVariables false
set_option linter.unusedSimpArgs false
namespace Go.Proofs.Ytfjkmdhkalbpkaa

/-- A graph: how many roots a mutator may have, each mutator's roots, each node's slots. -/
structure PG where
  most : Int
  roots : List (List Int)
  nodes : List (List Int)

def iget {α : Type} (l : List α) (i : Int) : Option α := if 0 ≤ i then l[i.toNat]? else none
theorem iget_nat {α : Type} (l : List α) (k : Nat) : iget l (k : Int) = l[k]? := by simp [iget]
theorem iget_some {α : Type} {l : List α} {i : Int} {x : α} (h : iget l i = some x) : ∃ k : Nat, i = (k : Int) ∧ l[k]? = some x := by
  unfold iget at h
  split at h
  · exact ⟨i.toNat, by omega, h⟩
  · cases h
theorem iget_none {α : Type} {l : List α} {i : Int} (h : iget l i = none) : i < 0 ∨ (l.length : Int) ≤ i := by
  unfold iget at h
  split at h
  · rw [List.getElem?_eq_none_iff] at h; omega
  · omega
theorem iget_mem {α : Type} {l : List α} {i : Int} {x : α} (h : iget l i = some x) : x ∈ l := by
  obtain ⟨k, -, hk⟩ := iget_some h
  exact List.mem_of_getElem? hk

theorem get_mod {α : Type} (l : List α) (i j : Nat) (f : α → α) : (l.modify i f)[j]? = if i = j then (l[j]?).map f else l[j]? := by
  rw [List.getElem?_modify]
  by_cases h : i = j
  · simp [h]
  · simp [h]

namespace PG
def L (g : PG) (m : Int) : Option (List Int) := iget g.roots m
def root (g : PG) (m a : Int) : Option Int := (g.L m).bind fun l => iget l a
def room (g : PG) (m : Int) : Bool := match g.L m with | none => false | some l => decide ((l.length : Int) < g.most)
def slots (g : PG) (v : Int) : List Int := (iget g.nodes (v - 1)).getD []
/-- The node and the word of a root's slot. -/
def slot (g : PG) (m a i : Int) : Option (Int × Int) := match g.root m a with | none => none | some v => if v = 0 then none else (iget (g.slots v) i).map fun y => (v, y)
def push (g : PG) (m v : Int) : PG := { g with roots := g.roots.modify m.toNat (· ++ [v]) }
def put (g : PG) (v i w : Int) : PG := { g with nodes := g.nodes.modify (v - 1).toNat (·.set i.toNat w) }
def more (g : PG) (n : Int) : PG := { g with nodes := g.nodes ++ [List.replicate n.toNat 0] }
def drop (g : PG) (m : Int) : PG := { g with roots := g.roots.modify m.toNat (·.dropLast) }

def alloc (g : PG) (m n : Int) : PG × Int × Bool := if 0 ≤ n ∧ n ≤ 64 ∧ g.room m = true then ((g.more n).push m (g.nodes.length + 1), g.nodes.length + 1, true) else (g, 0, false)
def read (g : PG) (m a i : Int) : PG × Int × Bool := match g.slot m a i with | none => (g, 0, false) | some (_, y) => if g.room m = true then (g.push m y, y, true) else (g, 0, false)
def write (g : PG) (m a i b : Int) : PG × Bool := match g.slot m a i with | none => (g, false) | some (v, _) => match g.root m b with | none => (g, false) | some w => (g.put v i w, true)
def pop (g : PG) (m : Int) : PG × Bool := match g.L m with | none => (g, false) | some l => if l = [] then (g, false) else (g.drop m, true)
def dup (g : PG) (m a : Int) : PG × Bool := match g.root m a with | none => (g, false) | some v => if g.room m = true then (g.push m v, true) else (g, false)

/-- An operation by its number. -/
def act (g : PG) (d m a i b : Int) : PG × Int × Bool :=
  if d = 0 then g.alloc m i else if d = 1 then g.read m a i else if d = 2 then ((g.write m a i b).1, 0, (g.write m a i b).2) else if d = 3 then ((g.pop m).1, 0, (g.pop m).2) else ((g.dup m a).1, 0, (g.dup m a).2)

/-- What is always so. -/
structure Ok (g : PG) : Prop where
  rl : ∀ l ∈ g.roots, (l.length : Int) ≤ g.most
  rv : ∀ l ∈ g.roots, ∀ v ∈ l, 0 ≤ v ∧ v ≤ g.nodes.length
  nl : ∀ s ∈ g.nodes, s.length ≤ 64
  nv : ∀ s ∈ g.nodes, ∀ v ∈ s, 0 ≤ v ∧ v ≤ g.nodes.length

/-- A node that can be come to. -/
inductive Rch (g : PG) : Int → Prop
  | root {l : List Int} {v : Int} : l ∈ g.roots → v ∈ l → v ≠ 0 → Rch g v
  | slot {v s : Int} : Rch g v → s ∈ g.slots v → s ≠ 0 → Rch g s

open Classical in
noncomputable def reach (g : PG) : List Int := ((List.range g.nodes.length).map fun (i : Nat) => (i : Int) + 1).filter fun v => decide (g.Rch v)

theorem mem_slots {g : PG} {v s : Int} (h : s ∈ g.slots v) : ∃ l ∈ g.nodes, s ∈ l ∧ iget g.nodes (v - 1) = some l := by
  unfold slots at h
  cases e : iget g.nodes (v - 1) with
  | none => rw [e] at h; simp at h
  | some l => rw [e] at h; exact ⟨l, iget_mem e, by simpa using h, rfl⟩

theorem rch_bd {g : PG} (ok : g.Ok) {v : Int} (h : g.Rch v) : 1 ≤ v ∧ v ≤ g.nodes.length := by
  cases h with
  | root h1 h2 h3 => have := ok.rv _ h1 _ h2; omega
  | slot h1 h2 h3 =>
    obtain ⟨l, hl, hs, -⟩ := mem_slots h2
    have := ok.nv l hl _ hs
    omega

theorem mem_reach {g : PG} (ok : g.Ok) {v : Int} : v ∈ g.reach ↔ g.Rch v := by
  unfold reach
  rw [List.mem_filter]
  constructor
  · rintro ⟨-, h⟩; simpa using h
  · intro h
    have := rch_bd ok h
    refine ⟨?_, by simpa using h⟩
    rw [List.mem_map]
    exact ⟨(v - 1).toNat, by rw [List.mem_range]; omega, by omega⟩

theorem reach_sorted (g : PG) : g.reach.Pairwise (· < ·) := by
  unfold reach
  refine List.Pairwise.filter _ ?_
  rw [List.pairwise_map]
  refine List.Pairwise.imp ?_ List.pairwise_lt_range
  intro a b h
  omega

theorem push_roots_mem {g : PG} {m v : Int} {l : List Int} (h : l ∈ (g.push m v).roots) : l ∈ g.roots ∨ ∃ l0 ∈ g.roots, l = l0 ++ [v] ∧ g.roots[m.toNat]? = some l0 := by
  obtain ⟨j, hj⟩ := List.mem_iff_getElem?.1 h
  unfold push at hj
  rw [get_mod] at hj
  by_cases e : m.toNat = j
  · subst e
    cases e2 : g.roots[m.toNat]? with
    | none => rw [e2] at hj; simp at hj
    | some l0 => rw [e2] at hj; simp at hj; exact .inr ⟨l0, List.mem_of_getElem? e2, hj.symm, rfl⟩
  · rw [if_neg e] at hj
    exact .inl (List.mem_of_getElem? hj)

theorem drop_roots_mem {g : PG} {m : Int} {l : List Int} (h : l ∈ (g.drop m).roots) : ∃ l0 ∈ g.roots, (∀ x ∈ l, x ∈ l0) ∧ l.length ≤ l0.length := by
  obtain ⟨j, hj⟩ := List.mem_iff_getElem?.1 h
  unfold drop at hj
  rw [get_mod] at hj
  by_cases e : m.toNat = j
  · subst e
    cases e2 : g.roots[m.toNat]? with
    | none => rw [e2] at hj; simp at hj
    | some l0 =>
      rw [e2] at hj; simp at hj
      refine ⟨l0, List.mem_of_getElem? e2, ?_, ?_⟩
      · subst hj; exact fun x hx => List.dropLast_subset _ hx
      · subst hj; simp
  · rw [if_neg e] at hj
    exact ⟨l, List.mem_of_getElem? hj, fun x h => h, Nat.le_refl _⟩

theorem put_nodes_mem {g : PG} {v i w : Int} {s : List Int} (h : s ∈ (g.put v i w).nodes) : ∃ s0 ∈ g.nodes, s.length = s0.length ∧ ∀ x ∈ s, x ∈ s0 ∨ x = w := by
  obtain ⟨j, hj⟩ := List.mem_iff_getElem?.1 h
  unfold put at hj
  rw [get_mod] at hj
  by_cases e : (v - 1).toNat = j
  · subst e
    cases e2 : g.nodes[(v - 1).toNat]? with
    | none => rw [e2] at hj; simp at hj
    | some l0 =>
      rw [e2] at hj; simp at hj
      refine ⟨l0, List.mem_of_getElem? e2, ?_, ?_⟩
      · subst hj; simp
      · subst hj; exact fun x hx => List.mem_or_eq_of_mem_set hx
  · rw [if_neg e] at hj
    exact ⟨s, List.mem_of_getElem? hj, rfl, fun x h => .inl h⟩

theorem L_mem {g : PG} {m : Int} {l : List Int} (h : g.L m = some l) : l ∈ g.roots := iget_mem h
theorem root_some {g : PG} {m a v : Int} (h : g.root m a = some v) : ∃ l, g.L m = some l ∧ iget l a = some v := by
  unfold root at h
  cases e : g.L m with
  | none => rw [e] at h; simp at h
  | some l => rw [e] at h; exact ⟨l, rfl, h⟩
theorem slot_some {g : PG} {m a i v y : Int} (h : g.slot m a i = some (v, y)) : g.root m a = some v ∧ v ≠ 0 ∧ iget (g.slots v) i = some y := by
  unfold slot at h
  cases e : g.root m a with
  | none => rw [e] at h; simp at h
  | some u =>
    rw [e] at h
    dsimp only at h
    split at h
    · cases h
    · cases e2 : iget (g.slots u) i with
      | none => rw [e2] at h; simp at h
      | some z => rw [e2] at h; simp at h; obtain ⟨rfl, rfl⟩ := h; exact ⟨rfl, by assumption, e2⟩

theorem root_bd {g : PG} (ok : g.Ok) {m a v : Int} (h : g.root m a = some v) : 0 ≤ v ∧ v ≤ g.nodes.length := by
  obtain ⟨l, h1, h2⟩ := root_some h
  exact ok.rv l (L_mem h1) v (iget_mem h2)
theorem slots_bd {g : PG} (ok : g.Ok) {v i y : Int} (h : iget (g.slots v) i = some y) : 0 ≤ y ∧ y ≤ g.nodes.length := by
  obtain ⟨l, hl, hs, -⟩ := mem_slots (iget_mem h)
  exact ok.nv l hl _ hs

theorem room_some {g : PG} {m : Int} (h : g.room m = true) : ∃ l, g.L m = some l ∧ (l.length : Int) < g.most := by
  unfold room at h
  cases e : g.L m with
  | none => rw [e] at h; cases h
  | some l => rw [e] at h; exact ⟨l, rfl, by simpa using h⟩

theorem ok_push {g : PG} (ok : g.Ok) {m v : Int} (hr : g.room m = true) (hv : 0 ≤ v ∧ v ≤ g.nodes.length) : (g.push m v).Ok := by
  obtain ⟨l1, h1, h2⟩ := room_some hr
  obtain ⟨k, rfl, hk⟩ := iget_some h1
  refine ⟨fun l hl => ?_, fun l hl x hx => ?_, ok.nl, ok.nv⟩
  · rcases push_roots_mem hl with q | ⟨l0, q, rfl, e⟩
    · exact ok.rl l q
    · have : l1 = l0 := by rw [Int.toNat_natCast, hk] at e; exact Option.some.inj e
      subst this
      simp only [List.length_append, List.length_singleton]
      show _ ≤ g.most
      omega
  · rcases push_roots_mem hl with q | ⟨l0, q, rfl, e⟩
    · exact ok.rv l q x hx
    · rcases List.mem_append.1 hx with p | p
      · exact ok.rv l0 q x p
      · rw [List.mem_singleton.1 p]; exact hv

theorem ok_more {g : PG} (ok : g.Ok) {n : Int} (h : n ≤ 64) : (g.more n).Ok := by
  refine ⟨ok.rl, fun l hl x hx => ?_, fun s hs => ?_, fun s hs x hx => ?_⟩
  · have := ok.rv l hl x hx
    show _ ∧ _ ≤ (((g.nodes ++ _ : List (List Int)).length : Nat) : Int)
    rw [List.length_append]; simp; omega
  · rcases List.mem_append.1 hs with q | q
    · exact ok.nl s q
    · rw [List.mem_singleton.1 q]; simp; omega
  · show _ ∧ _ ≤ (((g.nodes ++ _ : List (List Int)).length : Nat) : Int)
    rcases List.mem_append.1 hs with q | q
    · have := ok.nv s q x hx
      rw [List.length_append]; simp; omega
    · rw [List.mem_singleton.1 q] at hx
      have := List.eq_of_mem_replicate hx
      subst this
      constructor <;> omega

theorem ok_drop {g : PG} (ok : g.Ok) (m : Int) : (g.drop m).Ok := by
  refine ⟨fun l hl => ?_, fun l hl x hx => ?_, ok.nl, ok.nv⟩
  · obtain ⟨l0, h1, h2, h3⟩ := drop_roots_mem hl
    have := ok.rl l0 h1
    show _ ≤ g.most
    omega
  · obtain ⟨l0, h1, h2, h3⟩ := drop_roots_mem hl
    exact ok.rv l0 h1 x (h2 x hx)

theorem put_nodes_length (g : PG) (v i w : Int) : (g.put v i w).nodes.length = g.nodes.length := by unfold put; simp
theorem ok_put {g : PG} (ok : g.Ok) {v i w : Int} (hw : 0 ≤ w ∧ w ≤ g.nodes.length) : (g.put v i w).Ok := by
  refine ⟨ok.rl, fun l hl x hx => by rw [put_nodes_length]; exact ok.rv l hl x hx, fun s hs => ?_, fun s hs x hx => ?_⟩
  · obtain ⟨s0, h1, h2, h3⟩ := put_nodes_mem hs
    have := ok.nl s0 h1
    omega
  · obtain ⟨s0, h1, h2, h3⟩ := put_nodes_mem hs
    rw [put_nodes_length]
    rcases h3 x hx with q | rfl
    · exact ok.nv s0 h1 x q
    · exact hw

theorem room_more (g : PG) (n m : Int) : (g.more n).room m = g.room m := rfl

theorem ok_act {g : PG} (ok : g.Ok) (d m a i b : Int) : (g.act d m a i b).1.Ok := by
  unfold act
  split
  · unfold alloc
    split
    · rename_i h
      refine ok_push (ok_more ok h.2.1) h.2.2 ?_
      show _ ∧ _ ≤ (((g.nodes ++ _ : List (List Int)).length : Nat) : Int)
      rw [List.length_append]; simp; omega
    · exact ok
  · split
    · unfold read
      split
      · exact ok
      · rename_i v y e
        split
        · exact ok_push ok (by assumption) (slots_bd ok (slot_some e).2.2)
        · exact ok
    · split
      · unfold write
        split
        · exact ok
        · split
          · exact ok
          · exact ok_put ok (root_bd ok (by assumption))
      · split
        · unfold pop
          split
          · exact ok
          · split
            · exact ok
            · exact ok_drop ok m
        · unfold dup
          split
          · exact ok
          · rename_i v e
            split
            · exact ok_push ok (by assumption) (root_bd ok e)
            · exact ok

theorem nodes_act (g : PG) (d m a i b : Int) : g.nodes.length ≤ (g.act d m a i b).1.nodes.length ∧ (g.act d m a i b).1.nodes.length ≤ g.nodes.length + 1 := by
  unfold act
  split
  · unfold alloc; split
    · simp [push, more]
    · simp
  · split
    · unfold read; split
      · simp
      · split <;> simp [push]
    · split
      · unfold write; split
        · simp
        · split <;> simp [put]
      · split
        · unfold pop; split
          · simp
          · split <;> simp [drop]
        · unfold dup; split
          · simp
          · split <;> simp [push]

theorem roots_act (g : PG) (d m a i b : Int) : (g.act d m a i b).1.roots.length = g.roots.length ∧ (g.act d m a i b).1.most = g.most := by
  unfold act
  split
  · unfold alloc; split
    · simp [push, more]
    · simp
  · split
    · unfold read; split
      · simp
      · split <;> simp [push]
    · split
      · unfold write; split
        · simp
        · split <;> simp [put]
      · split
        · unfold pop; split
          · simp
          · split <;> simp [drop]
        · unfold dup; split
          · simp
          · split <;> simp [push]

/-- What may not be changes nothing. -/
theorem act_no {g : PG} {d m a i b : Int} (h : (g.act d m a i b).2.2 = false) : (g.act d m a i b).1 = g := by
  revert h
  unfold act
  split
  · unfold alloc; split
    · intro h; cases h
    · intro _; rfl
  · split
    · unfold read; split
      · intro _; rfl
      · split
        · intro h; cases h
        · intro _; rfl
    · split
      · unfold write; split
        · intro _; rfl
        · split
          · intro _; rfl
          · intro h; cases h
      · split
        · unfold pop; split
          · intro _; rfl
          · split
            · intro _; rfl
            · intro h; cases h
        · unfold dup; split
          · intro _; rfl
          · split
            · intro h; cases h
            · intro _; rfl

/-- The other mutators' roots stay. -/
theorem act_others {g : PG} {d m a i b : Int} {k : Nat} (h : (k : Int) ≠ m) : (g.act d m a i b).1.roots[k]? = g.roots[k]? ∨ (g.L m).isNone = true := by
  by_cases hm : (g.L m).isNone = true
  · exact .inr hm
  left
  have hk : m.toNat ≠ k := by
    cases e : g.L m with
    | none => rw [e] at hm; simp at hm
    | some l =>
      obtain ⟨j, rfl, -⟩ := iget_some e
      simp; omega
  unfold act
  split
  · unfold alloc; split
    · simp [push, more, get_mod, hk]
    · rfl
  · split
    · unfold read; split
      · rfl
      · split
        · simp [push, get_mod, hk]
        · rfl
    · split
      · unfold write; split
        · rfl
        · split <;> simp [put]
      · split
        · unfold pop; split
          · rfl
          · split
            · rfl
            · simp [drop, get_mod, hk]
        · unfold dup; split
          · rfl
          · split
            · simp [push, get_mod, hk]
            · rfl

/-- What can't be come to never can again. -/
theorem rch_back {g g' : PG} (n : Int) (h1 : ∀ l ∈ g'.roots, ∀ v ∈ l, v ≠ 0 → v ≤ n → g.Rch v) (h2 : ∀ v, v ≤ n → g.Rch v → ∀ s ∈ g'.slots v, s ≠ 0 → g.Rch s) (h3 : ∀ v, n < v → ∀ s ∈ g'.slots v, s = 0) : ∀ v, g'.Rch v → v ≤ n → g.Rch v := by
  intro v h
  induction h with
  | root a b c => intro hn; exact h1 _ a _ b c hn
  | @slot v s a b c ih =>
    intro hn
    by_cases hv : v ≤ n
    · exact h2 v hv (ih hv) s b c
    · exact absurd (h3 v (by omega) s b) c

theorem slots_put {g : PG} {v i w u s : Int} (h : s ∈ (g.put v i w).slots u) : s ∈ g.slots u ∨ s = w := by
  unfold slots put at h
  cases e : iget (g.nodes.modify (v - 1).toNat (·.set i.toNat w)) (u - 1) with
  | none => dsimp only at h; rw [e] at h; simp at h
  | some l =>
    dsimp only at h
    rw [e] at h
    obtain ⟨k, hk, hl⟩ := iget_some e
    rw [get_mod] at hl
    have hs : g.slots u = (g.nodes[k]?).getD [] := by unfold slots; rw [hk, iget_nat]
    rw [hs]
    by_cases q : (v - 1).toNat = k
    · cases e2 : g.nodes[k]? with
      | none => rw [e2] at hl; simp at hl
      | some l0 =>
        rw [e2, if_pos q] at hl
        simp at hl h ⊢
        subst hl
        exact List.mem_or_eq_of_mem_set h
    · rw [if_neg q] at hl
      rw [hl]
      exact .inl (by simpa using h)

theorem slots_more {g : PG} {n u s : Int} (h : s ∈ (g.more n).slots u) : s ∈ g.slots u ∧ u ≤ g.nodes.length ∨ s = 0 := by
  unfold slots more at h
  cases e : iget (g.nodes ++ [List.replicate n.toNat 0]) (u - 1) with
  | none => dsimp only at h; rw [e] at h; simp at h
  | some l =>
    dsimp only at h
    rw [e] at h
    obtain ⟨k, hk, hl⟩ := iget_some e
    have hs : g.slots u = (g.nodes[k]?).getD [] := by unfold slots; rw [hk, iget_nat]
    rw [hs]
    rcases Nat.lt_or_ge k g.nodes.length with q | q
    · rw [List.getElem?_append_left q] at hl
      rw [hl]
      exact .inl ⟨by simpa using h, by omega⟩
    · rw [List.getElem?_append_right q] at hl
      have : l = List.replicate n.toNat 0 := by
        have := List.mem_of_getElem? hl
        simpa using this
      subst this
      simp at h
      exact .inr h.2

theorem rch_act {g : PG} (ok : g.Ok) (d m a i b : Int) {v : Int} (h : (g.act d m a i b).1.Rch v) (hv : v ≤ g.nodes.length) : g.Rch v := by
  have same : ∀ u, u ≤ (g.nodes.length : Int) → g.Rch u → ∀ s ∈ g.slots u, s ≠ 0 → g.Rch s := fun u _ hr s hs h0 => .slot hr hs h0
  have none' : ∀ u, (g.nodes.length : Int) < u → ∀ s ∈ g.slots u, s = 0 := fun u hu s hs => by
    obtain ⟨l, -, -, e⟩ := mem_slots hs
    obtain ⟨k, hk, hl⟩ := iget_some e
    have := (List.getElem?_eq_some_iff.1 hl).1
    omega
  have pushed : ∀ y : Int, (y = 0 ∨ (g.nodes.length : Int) < y ∨ g.Rch y) → ∀ l ∈ (g.push m y).roots, ∀ v ∈ l, v ≠ 0 → v ≤ (g.nodes.length : Int) → g.Rch v := by
    intro y hy l hl x hx h0 hn
    rcases push_roots_mem hl with q | ⟨l0, q, rfl, e⟩
    · exact .root q hx h0
    · rcases List.mem_append.1 hx with p | p
      · exact .root q p h0
      · rw [List.mem_singleton.1 p] at h0 hn ⊢
        rcases hy with r | r | r
        · exact absurd r h0
        · omega
        · exact r
  revert h
  unfold act
  split
  · unfold alloc
    split
    · intro h
      refine rch_back (g' := (g.more i).push m (g.nodes.length + 1)) g.nodes.length (fun l hl => pushed (g.nodes.length + 1) (.inr (.inl (by omega))) l hl) (fun u hu hr s hs h0 => ?_) (fun u hu s hs => ?_) v h hv
      · rcases slots_more (g := g) (n := i) hs with q | q
        · exact .slot hr q.1 h0
        · exact absurd q h0
      · rcases slots_more (g := g) (n := i) hs with q | q
        · omega
        · exact q
    · exact id
  · split
    · unfold read
      split
      · exact id
      · rename_i u y e
        split
        · intro h
          obtain ⟨h1, h2, h3⟩ := slot_some e
          refine rch_back (g' := g.push m y) g.nodes.length (pushed y ?_) same none' v h hv
          by_cases hy : y = 0
          · exact .inl hy
          · obtain ⟨l, q1, q2⟩ := root_some h1
            exact .inr (.inr (.slot (.root (L_mem q1) (iget_mem q2) h2) (iget_mem h3) hy))
        · exact id
    · split
      · unfold write
        split
        · exact id
        · rename_i u y e
          split
          · exact id
          · rename_i w e2
            intro h
            refine rch_back (g := g) (g' := g.put u i w) g.nodes.length (fun l hl x hx h0 hn => .root (g := g) hl hx h0) (fun u' hu hr s hs h0 => ?_) (fun u' hu s hs => ?_) v h hv
            · rcases slots_put hs with q | q
              · exact .slot hr q h0
              · subst q
                obtain ⟨l, q1, q2⟩ := root_some e2
                exact .root (L_mem q1) (iget_mem q2) h0
            · obtain ⟨l, -, -, e⟩ := mem_slots hs
              obtain ⟨k, hk, hl⟩ := iget_some e
              have := (List.getElem?_eq_some_iff.1 hl).1
              rw [put_nodes_length] at this
              omega
      · split
        · unfold pop
          split
          · exact id
          · split
            · exact id
            · intro h
              refine rch_back (g' := g.drop m) g.nodes.length (fun l hl x hx h0 hn => ?_) same none' v h hv
              obtain ⟨l0, q1, q2, -⟩ := drop_roots_mem hl
              exact .root q1 (q2 x hx) h0
        · unfold dup
          split
          · exact id
          · rename_i u e
            split
            · intro h
              refine rch_back (g' := g.push m u) g.nodes.length (pushed u ?_) same none' v h hv
              by_cases hu : u = 0
              · exact .inl hu
              · obtain ⟨l, q1, q2⟩ := root_some e
                exact .inr (.inr (.root (L_mem q1) (iget_mem q2) hu))
            · exact id
end PG

end Go.Proofs.Ytfjkmdhkalbpkaa
