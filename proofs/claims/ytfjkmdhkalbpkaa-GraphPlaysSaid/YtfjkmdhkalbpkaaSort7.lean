/- A slice of numbers of the call's own is sorted; a slice of numbers is copied. No condition but that fewer than a million stand in it. -/
import Derived.Test.YtfjkmdhkalbpkaaGr7d
import Derived.Test.YtfjkmdhkalbpkaaShelf7
set_option linter.unusedVariables false
set_option linter.unusedSimpArgs false
namespace Go.Proofs.Ytfjkmdhkalbpkaa
open Go.ChangeShapes Go.WideShapes Go.ChangeAt Go.RowKit

theorem Clone_h {w0 w : World} {cs : List (Chunk w0.heap.size)} (H : Has w0 w cs) (a : Option Addr) (n c : Nat) (l : List Int) (hn : n = l.length) (hl : l.length < 1000000) (hc : ∀ (j : Nat) x, l[j]? = some x → ∃ g off, a = some ⟨g, off, none⟩ ∧ w.cell? ⟨g, off + j, none⟩ = some (.int .i64 x)) :
    Calls Try.prog 40 #[.slice a n c] w fun e w' => ∃ v, e = .returned v ∧ Has w0 w' (cs ++ [ownN _ 3 .i64 v l]) := by
  subst hn
  cases a with
  | none =>
    have h0 : l = [] := by
      cases l with
      | nil => rfl
      | cons x l =>
        obtain ⟨g, off, h, -⟩ := hc 0 x rfl
        cases h
    subst h0
    refine (Try.slices_Clone_int_nil _ c w).mono ?_
    rintro e w' ⟨rfl, rfl⟩
    exact ⟨_, rfl, H.ownNil _ 1⟩
  | some ad =>
    by_cases h0 : l = []
    · subst h0
      refine (Try.slices_Clone_int_zero ad c w).mono ?_
      rintro e w' ⟨v, rfl, h1, -, h2⟩
      exact ⟨_, rfl, H.ownAdd h2 h1⟩
    · obtain ⟨x, l', rfl⟩ : ∃ x l', l = x :: l' := by
        cases l with
        | nil => exact absurd rfl h0
        | cons x l => exact ⟨x, l, rfl⟩
      obtain ⟨g, off, h, -⟩ := hc 0 x rfl
      cases h
      refine (Try.slices_Clone_int g off (x :: l').length c (x :: l') w (Nat.le_refl _) (by omega) ?_).mono ?_
      · intro j hj
        obtain ⟨g', off', h, h2⟩ := hc j ((x :: l')[j]) (List.getElem?_eq_getElem hj)
        cases h
        rw [h2, List.getD_eq_getElem?_getD, List.getElem?_eq_getElem hj]
        rfl
      · rintro e w' ⟨v, rfl, h1, -, h2⟩
        rw [List.take_length] at h1
        exact ⟨_, rfl, H.ownAdd h2 h1⟩

theorem heap_grow (w : World) (os : Array Obj) (k : Nat) (hk : k < w.heap.size) : (Sort.grow w os).heap[k]? = w.heap[k]? := by
  show (w.heap ++ os)[k]? = _
  rw [Array.getElem?_append_left hk]

theorem Sort_h {w0 w : World} {cs : List (Chunk w0.heap.size)} (H : Has w0 w cs) (i : Nat) {v : Value} {l : List Int} (hi : cs[i]? = some (ownN _ 3 .i64 v l)) (hl : l.length < 1000000) :
    Calls Try.prog 32 #[v] w fun e w' => e = .returned (.tuple #[]) ∧ Has w0 w' (cs.set i (ownN _ 3 .i64 v (l.mergeSort fun x y => decide (x ≤ y)))) := by
  have O : Own w 3 1 v l.length (l.map (Value.int .i64)) := H.get i hi
  by_cases h0 : l = []
  · subst h0
    obtain ⟨a, c, rfl⟩ := own_is O
    refine (Try.slices_Sort_int_none a c w).mono ?_
    rintro e w' ⟨rfl, rfl⟩
    refine ⟨rfl, ?_⟩
    have : cs.set i (ownN _ 3 .i64 (.slice a ([] : List Int).length c) (([] : List Int).mergeSort fun x y => decide (x ≤ y))) = cs := by
      rw [show (([] : List Int).mergeSort fun x y => decide (x ≤ y)) = [] from by simp]
      exact set_same_list hi
    rw [this]
    exact H
  · have hpos : 0 < l.length := List.length_pos_iff.2 h0
    rcases O.2 with ⟨_, hn⟩ | ⟨g, off, cap, cur, rfl, hg, h1, h2, h3, h4⟩
    · omega
    · have hcell : ∀ j, j < l.length → w.cell? ⟨g, off + j, none⟩ = some (.int .i64 (l.toArray[j]!)) := by
        intro j hj
        rw [blk_cell hg]
        have : (l.map (Value.int .i64))[j]? = some (.int .i64 (l[j])) := by rw [List.getElem?_map, List.getElem?_eq_getElem hj]; rfl
        rw [← h4, List.getElem?_take, if_pos (by omega), List.getElem?_drop] at this
        rw [getElem!_pos l.toArray j (by simpa using hj)]
        simpa using this
      refine (Try.slices_Sort_int g off cap l w (fun j hj => ⟨hcell j (by simpa using hj), blk_frozen hg _⟩) (blk_lt hg) (by omega)).mono ?_
      rintro e w' ⟨rfl, n, os, rfl⟩
      refine ⟨rfl, ?_⟩
      generalize hm : (l.mergeSort fun x y => decide (x ≤ y)) = m
      have hml : m.length = l.length := by rw [← hm]; exact List.length_mergeSort _
      have hpb : (Sort.putRow (Value.int .i64) (Sort.ahead w n) g off m.toArray).heap[g]? = some (.cells (Sort.putCells (Value.int .i64) off m.toArray cur) 3 (0, 0)) := by
        show ((Sort.ahead w n).heap.modify g _)[g]? = _
        rw [Array.getElem?_modify, if_pos rfl]
        show (w.heap[g]?).map _ = _
        rw [hg]; rfl
      have hps : (Sort.putRow (Value.int .i64) (Sort.ahead w n) g off m.toArray).heap.size = w.heap.size := by
        show ((Sort.ahead w n).heap.modify g _).size = _
        rw [Array.size_modify]; rfl
      have hgl := blk_lt hg
      have hu : Upd [g] w (Sort.grow (Sort.putRow (Value.int .i64) (Sort.ahead w n) g off m.toArray) os) := by
        refine ⟨rfl, rfl, rfl, ?_, fun k hk hn => ?_⟩
        · show _ ≤ (_ ++ os : Array Obj).size
          rw [Array.size_append, hps]; omega
        · rw [heap_grow _ _ _ (by rw [hps]; exact hk)]
          show ((Sort.ahead w n).heap.modify g _)[k]? = _
          rw [Array.getElem?_modify, if_neg (fun e => hn (by simp [e]))]
          rfl
      have hg' : (Sort.grow (Sort.putRow (Value.int .i64) (Sort.ahead w n) g off m.toArray) os).heap[g]? = some (.cells (Sort.putCells (Value.int .i64) off m.toArray cur) 3 (0, 0)) := by
        rw [heap_grow _ _ _ (by rw [hps]; exact hgl)]; exact hpb
      refine H.set _ hi rfl hu (by simp [ownC, Value.ownBlock]) (fun k hk => ?_) ?_
      · have hk' : k = g := by simpa [ownC, Value.ownBlock, eq_comm] using hk
        subst hk'
        exact ⟨.inl hk, blk_lt hg'⟩
      · show Own _ _ 1 _ m.length _
        rw [hml]
        refine ⟨by simp [hml], .inr ⟨g, off, cap, _, rfl, hg', h1, h2, by simpa [Sort.putCells] using h3, ?_⟩⟩
        refine List.ext_getElem? fun j => ?_
        rw [List.getElem?_take]
        split
        · rename_i hj
          rw [List.getElem?_drop, Array.getElem?_toList, List.getElem?_map]
          unfold Sort.putCells
          have hjm : j < m.length := by omega
          rw [Array.getElem?_mapIdx, Array.getElem?_eq_getElem (by omega : off + j < cur.size), List.getElem?_eq_getElem hjm]
          simp only [Option.map_some]
          rw [if_pos ⟨by omega, by simp; omega⟩, show off + j - off = j by omega, getElem!_pos m.toArray j (by simpa using hjm)]
          simp
        · rw [List.getElem?_eq_none (by simp; omega)]

end Go.Proofs.Ytfjkmdhkalbpkaa
