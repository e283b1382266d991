/- The document's graph: rows of truth values. -/
import Derived.Test.YtfjkmdhkalbpkaaRg7k
set_option linter.unusedVariables false
set_option linter.unusedSimpArgs false
namespace Go.Proofs.Ytfjkmdhkalbpkaa
open Go.ChangeShapes Go.WideShapes Go.ChangeAt Go.RowKit

abbrev blC (n0 b N : Nat) (is : List Bool) : Chunk n0 := ownC n0 4 1 (.slice (some ⟨b, 0, none⟩) N N) N (is.map Value.bool)

theorem bl_cell {w : World} {b N : Nat} {is : List Bool} (h : Own w 4 1 (.slice (some ⟨b, 0, none⟩) N N) N (is.map Value.bool)) {u : Nat} {x : Bool} (hx : is[u]? = some x) : w.cell? ⟨b, u, none⟩ = some (.bool x) ∧ w.frozen? ⟨b, u, none⟩ = false := by
  have hl : is.length = N := by have := h.1; simpa using this
  have hN : 0 < N := by have := (List.getElem?_eq_some_iff.1 hx).1; omega
  obtain ⟨g, off, hh, -, -, -, hc, hf⟩ := own_atV (n := N) h hN
  cases hh
  have := hc u (.bool x) (by rw [List.getElem?_map, hx]; rfl)
  rw [Nat.zero_add] at this
  exact ⟨this, hf u⟩

theorem Has.blS {w0 w : World} {cs : List (Chunk w0.heap.size)} (H : Has w0 w cs) (i : Nat) {b N : Nat} {is : List Bool} (hi : cs[i]? = some (blC _ b N is)) (u : Nat) (hu : u < N) : Has w0 (w.setCell ⟨b, u, none⟩ (.bool true)) (cs.set i (blC _ b N (is.set u true))) := by
  have h := H.ownSet0 i hi u (.bool true) (by omega)
  rw [← List.map_set] at h
  exact h

theorem Has.blNew {w0 w : World} {cs : List (Chunk w0.heap.size)} (H : Has w0 w cs) (N : Nat) (hN : N < 10000) : Has w0 (w.alloc (.cells (madeCells #[Value.bool false] N) 4)) (cs ++ [blC _ w.heap.size N (List.replicate N false)]) := by
  have h := H.ownLit (madeCells #[Value.bool false] N) 4 1 N (by rw [size_madeCells]; omega) (by omega)
  have e : (madeCells #[Value.bool false] N).toList = (List.replicate N false).map Value.bool := by
    rw [toList_madeCells_one, List.map_replicate]
  rw [e] at h
  exact h

end Go.Proofs.Ytfjkmdhkalbpkaa
