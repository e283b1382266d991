/- What a call may have written: of all blocks that were there, none but those that are named; and what a row of cells holds. No condition. -/
import Derived.Test.YtmiaghbakdapbaaSlices
set_option linter.unusedVariables false
namespace Go.Proofs.Ytmiaghbakdapbaa
open Go.ChangeShapes Go.WideShapes Go.ChangeAt Go.RowKit

/-- Of the blocks that were there none is changed but those on the list. -/
structure Upd (S : List Nat) (w w' : World) : Prop where
  os : w'.os = w.os
  tape : w'.tape = w.tape
  output : w'.output = w.output
  size : w.heap.size ≤ w'.heap.size
  block : ∀ k, k < w.heap.size → k ∉ S → w'.heap[k]? = w.heap[k]?

theorem Upd.refl (S : List Nat) (w : World) : Upd S w w := ⟨rfl, rfl, rfl, Nat.le_refl _, fun _ _ _ => rfl⟩
theorem Upd.trans {S : List Nat} {a b c : World} (h : Upd S a b) (k : Upd S b c) : Upd S a c :=
  ⟨k.os.trans h.os, k.tape.trans h.tape, k.output.trans h.output, Nat.le_trans h.size k.size, fun i hi hn => (k.block i (Nat.lt_of_lt_of_le hi h.size) hn).trans (h.block i hi hn)⟩
theorem Upd.mono {S T : List Nat} {a b : World} (h : Upd S a b) (hs : ∀ x ∈ S, x ∈ T) : Upd T a b := ⟨h.os, h.tape, h.output, h.size, fun i hi hn => h.block i hi fun hm => hn (hs i hm)⟩
theorem Upd.drewN {S : List Nat} {a b : World} (h : Upd S a b) (n : Nat) : Upd S a (b.drewN n) := ⟨h.os, h.tape, h.output, h.size, h.block⟩
theorem Upd.undrew {S : List Nat} {a b : World} {n : Nat} (h : Upd S (a.drewN n) b) : Upd S a b := ⟨h.os, h.tape, h.output, h.size, h.block⟩
theorem Upd.setCell {S : List Nat} {a b : World} (h : Upd S a b) {p : Addr} (hp : p.block ∈ S) (u : Value) : Upd S a (b.setCell p u) :=
  h.trans ⟨rfl, rfl, rfl, by simp [World.setCell], fun k hk hn => Below.heap_setCell _ _ _ _ (fun e => hn (e ▸ hp))⟩
theorem Upd.setNew {S : List Nat} {a b : World} (h : Upd S a b) {p : Addr} (hp : a.heap.size ≤ p.block) (u : Value) : Upd S a (b.setCell p u) :=
  ⟨h.os, h.tape, h.output, by simpa [World.setCell] using h.size, fun k hk hn => (Below.heap_setCell _ _ _ _ (by omega)).trans (h.block k hk hn)⟩
theorem Upd.alloc {S : List Nat} {a b : World} (h : Upd S a b) (o : Obj) : Upd S a (b.alloc o) :=
  h.trans ⟨rfl, rfl, rfl, by simp, fun k hk hn => Below.heap_alloc _ _ _ hk⟩
theorem Upd.of_below {S : List Nat} {a b : World} (h : Below a.heap.size a b) : Upd S a b := ⟨h.os, h.tape, h.output, h.size, fun k hk _ => h.block k hk⟩
theorem Upd.below {a b : World} (h : Upd [] a b) : Below a.heap.size a b := ⟨h.os, h.tape, h.output, h.size, fun k hk => h.block k hk (by simp)⟩
/-- What is written in blocks that weren't there ahead changes nothing that was. -/
theorem Upd.below_from {S : List Nat} {w0 a b : World} (h0 : Below w0.heap.size w0 a) (h : Upd S a b) (hS : ∀ x ∈ S, w0.heap.size ≤ x) : Below w0.heap.size w0 b :=
  h0.trans ⟨h.os, h.tape, h.output, h.size, fun k hk => h.block k (Nat.lt_of_lt_of_le hk h0.size) fun hm => by have := hS k hm; omega⟩
/-- What is written in new blocks and in those on the list. -/
theorem Upd.trans_new {S T : List Nat} {a b c : World} (h : Upd S a b) (k : Upd T b c) (hT : ∀ x ∈ T, a.heap.size ≤ x ∨ x ∈ S) : Upd S a c :=
  ⟨k.os.trans h.os, k.tape.trans h.tape, k.output.trans h.output, Nat.le_trans h.size k.size, fun i hi hn => (k.block i (Nat.lt_of_lt_of_le hi h.size) fun hm => by
    rcases hT i hm with q | q
    · omega
    · exact hn q).trans (h.block i hi hn)⟩

theorem Upd.blk {S : List Nat} {a b : World} (h : Upd S a b) {k : Nat} {o : Obj} (hk : a.heap[k]? = some o) (hn : k ∉ S) : b.heap[k]? = some o := by
  have hlt : k < a.heap.size := by
    rcases Nat.lt_or_ge k a.heap.size with q | q
    · exact q
    · rw [Array.getElem?_eq_none q] at hk; cases hk
  rw [h.block k hlt hn, hk]

theorem blk_lt {w : World} {k : Nat} {o : Obj} (hk : w.heap[k]? = some o) : k < w.heap.size := by
  rcases Nat.lt_or_ge k w.heap.size with q | q
  · exact q
  · rw [Array.getElem?_eq_none q] at hk; cases hk

theorem set_same {w : World} {b : Nat} {c : Array Value} {T : TypeId} (h : w.heap[b]? = some (.cells c T (0, 0))) (o : Nat) (u : Value) : (w.setCell ⟨b, o, none⟩ u).heap[b]? = some (.cells (c.setIfInBounds o u) T (0, 0)) := by
  simp only [World.setCell, Array.getElem?_modify, if_true, h, Option.map_some]
  simp

theorem set_other {w : World} {p : Addr} {k : Nat} {o : Obj} (h : w.heap[k]? = some o) (hne : k ≠ p.block) (u : Value) : (w.setCell p u).heap[k]? = some o := by
  rw [Below.heap_setCell _ _ _ _ hne, h]

/-- Block b holds the numbers xs at its begin. -/
def HasI (w : World) (b : Nat) (e : TypeId) (k : IntKind) (xs : List Int) : Prop := ∃ cur : Array Value, w.heap[b]? = some (.cells cur e (0, 0)) ∧ cur.toList.take xs.length = xs.map (Value.int k)

theorem hasI_cell {w : World} {b : Nat} {e : TypeId} {k : IntKind} {xs : List Int} (h : HasI w b e k xs) (j : Nat) (hj : j < xs.length) : w.cell? ⟨b, j, none⟩ = some (.int k xs[j]) := by
  obtain ⟨cur, hb, ht⟩ := h
  rw [blk_cell hb]
  have : (cur.toList.take xs.length)[j]? = some (.int k xs[j]) := by rw [ht]; simp [hj]
  rw [List.getElem?_take, if_pos hj] at this
  simpa using this

theorem hasI_frozen {w : World} {b : Nat} {e : TypeId} {k : IntKind} {xs : List Int} (h : HasI w b e k xs) (j : Nat) : w.frozen? ⟨b, j, none⟩ = false := by
  obtain ⟨cur, hb, _⟩ := h
  exact blk_frozen hb j

theorem hasI_set {w : World} {b : Nat} {e : TypeId} {k : IntKind} {xs : List Int} (h : HasI w b e k xs) (j : Nat) (n : Int) : HasI (w.setCell ⟨b, j, none⟩ (.int k n)) b e k (xs.set j n) := by
  obtain ⟨cur, hb, ht⟩ := h
  refine ⟨_, set_same hb j _, ?_⟩
  rw [Array.toList_setIfInBounds, List.length_set, List.take_set, ht, List.map_set]

theorem hasI_upd {w w' : World} {b : Nat} {e : TypeId} {k : IntKind} {xs : List Int} {S : List Nat} (h : HasI w b e k xs) (u : Upd S w w') (hn : b ∉ S) : HasI w' b e k xs := by
  obtain ⟨cur, hb, ht⟩ := h
  exact ⟨cur, u.blk hb hn, ht⟩

theorem hasI_other {w : World} {b : Nat} {e : TypeId} {k : IntKind} {xs : List Int} (h : HasI w b e k xs) {p : Addr} (hne : b ≠ p.block) (u : Value) : HasI (w.setCell p u) b e k xs := by
  obtain ⟨cur, hb, ht⟩ := h
  exact ⟨cur, set_other hb hne u, ht⟩

theorem cell_upd {w w' : World} {S : List Nat} {b o : Nat} {v : Option Value} (h : w.cell? ⟨b, o, none⟩ = v) (u : Upd S w w') (hb : b < w.heap.size) (hn : b ∉ S) : w'.cell? ⟨b, o, none⟩ = v := by
  rw [World.cell?_of_block (w := w) (a := ⟨b, o, none⟩) (u.block b hb hn), h]

end Go.Proofs.Ytmiaghbakdapbaa
