/- One step of a detector (package detector), over memory as parts. Conditions: the Store, the detector and the map are parts, the configuration may be. -/
import Derived.Test.YtgodnmcfbbchoaaDt21
import Derived.Deep.MidRow
set_option linter.unusedVariables false
set_option linter.unusedSimpArgs false
namespace Go.Proofs.Ytgodnmcfbbchoaa
open Go.ChangeShapes Go.WideShapes Go.ChangeAt Go.RowKit

theorem get_at {α : Type} (l m : List α) (k : Nat) : (l ++ m)[l.length + k]? = m[k]? := by
  rw [List.getElem?_append_right (by omega)]; congr 1; omega
theorem set_at {α : Type} (l m : List α) (k : Nat) (x : α) : (l ++ m).set (l.length + k) x = l ++ m.set k x := by
  rw [List.set_append_right _ _ (by omega)]; congr 2; omega
theorem Has.moreAt {w0 w : World} {cs ds : List (Chunk w0.heap.size)} {k b : Nat} {xs : Array Value} {T : TypeId} (H : Has w0 w (cs ++ ds)) (hk : ds[k]? = some (blkC _ b xs T)) (o : Nat) (u : Value) : Has w0 (w.setCell ⟨b, o, none⟩ u) (cs ++ ds.set k (blkC _ b (xs.setIfInBounds o u) T)) := by
  have := H.blkSet (cs.length + k) ((get_at cs ds k).trans hk) o u
  rwa [set_at] at this

def dtFns (xb s2 s4 s6 s7 s8 s11 s13 : Nat) : Array Value := #[.func (.func 66) #[.pointer (some ⟨xb, 0, none⟩)] #[], .func (.func 67) #[.pointer (some ⟨xb, 0, none⟩)] #[], .func (.func 79) #[] #[.pointer (some ⟨s2, 0, none⟩), .pointer (some ⟨s2 + 1, 0, none⟩)], .func (.func 69) #[.pointer (some ⟨xb, 0, none⟩)] #[], .func (.func 79) #[] #[.pointer (some ⟨s4, 0, none⟩), .pointer (some ⟨s4 + 1, 0, none⟩)], .func (.func 70) #[.pointer (some ⟨xb, 0, none⟩)] #[], .func (.func 79) #[] #[.pointer (some ⟨s6, 0, none⟩), .pointer (some ⟨s6 + 1, 0, none⟩)], .func (.func 80) #[] #[.pointer (some ⟨s7, 0, none⟩), .pointer (some ⟨s7 + 1, 0, none⟩)], .func (.func 80) #[] #[.pointer (some ⟨s8, 0, none⟩), .pointer (some ⟨s8 + 1, 0, none⟩)], .func (.func 72) #[.pointer (some ⟨xb, 0, none⟩)] #[], .func (.func 73) #[.pointer (some ⟨xb, 0, none⟩)] #[], .func (.func 79) #[] #[.pointer (some ⟨s11, 0, none⟩), .pointer (some ⟨s11 + 1, 0, none⟩)], .func (.func 74) #[.pointer (some ⟨xb, 0, none⟩)] #[], .func (.func 79) #[] #[.pointer (some ⟨s13, 0, none⟩), .pointer (some ⟨s13 + 1, 0, none⟩)]]
def dtBoxes (n0 rb xb s2 s4 s6 s7 s8 s11 s13 : Nat) : List (Chunk n0) := [blkC _ rb (dtFns xb s2 s4 s6 s7 s8 s11 s13) 88, bxC _ s2 xb, byC _ (s2 + 1) 2, bxC _ s4 xb, byC _ (s4 + 1) 3, bxC _ s6 xb, byC _ (s6 + 1) 4, bxC _ s7 xb, byC _ (s7 + 1) 8, bxC _ s8 xb, byC _ (s8 + 1) 9, bxC _ s11 xb, byC _ (s11 + 1) 5, bxC _ s13 xb, byC _ (s13 + 1) 0]

theorem row14 {w : World} {B : Nat} {a0 a1 a2 a3 a4 a5 a6 a7 a8 a9 a10 a11 a12 a13 : Value} {T : TypeId} (h : w.heap[B]? = some (.cells #[a0, a1, a2, a3, a4, a5, a6, a7, a8, a9, a10, a11, a12, a13] T (0, 0))) : w.cell? ⟨B, 0, none⟩ = some a0 ∧ w.cell? ⟨B, 1, none⟩ = some a1 ∧ w.cell? ⟨B, 2, none⟩ = some a2 ∧ w.cell? ⟨B, 3, none⟩ = some a3 ∧ w.cell? ⟨B, 4, none⟩ = some a4 ∧ w.cell? ⟨B, 5, none⟩ = some a5 ∧ w.cell? ⟨B, 6, none⟩ = some a6 ∧ w.cell? ⟨B, 7, none⟩ = some a7 ∧ w.cell? ⟨B, 8, none⟩ = some a8 ∧ w.cell? ⟨B, 9, none⟩ = some a9 ∧ w.cell? ⟨B, 10, none⟩ = some a10 ∧ w.cell? ⟨B, 11, none⟩ = some a11 ∧ w.cell? ⟨B, 12, none⟩ = some a12 ∧ w.cell? ⟨B, 13, none⟩ = some a13 ∧ ∀ o, w.frozen? ⟨B, o, none⟩ = false :=
  ⟨blk_cell h 0, blk_cell h 1, blk_cell h 2, blk_cell h 3, blk_cell h 4, blk_cell h 5, blk_cell h 6, blk_cell h 7, blk_cell h 8, blk_cell h 9, blk_cell h 10, blk_cell h 11, blk_cell h 12, blk_cell h 13, blk_frozen h⟩

theorem Has.more0 {w0 w : World} {cs BX : List (Chunk w0.heap.size)} {b : Nat} {xs : Array Value} {T : TypeId} (H : Has w0 w (cs ++ blkC _ b xs T :: BX)) (o : Nat) (u : Value) : Has w0 (w.setCell ⟨b, o, none⟩ u) (cs ++ blkC _ b (xs.setIfInBounds o u) T :: BX) :=
  H.moreAt (k := 0) rfl o u

set_option maxRecDepth 100000 in
set_option maxHeartbeats 4000000 in
theorem does_h {w0 w : World} {cs : List (Chunk w0.heap.size)} (H : Has w0 w cs) (xb : Nat) :
    Calls Try.prog 49 #[.pointer (some ⟨xb, 0, none⟩)] w fun e w' => ∃ rb s2 s4 s6 s7 s8 s11 s13, e = .returned (.agg (dtFns xb s2 s4 s6 s7 s8 s11 s13)) ∧ Has w0 w' (cs ++ dtBoxes _ rb xb s2 s4 s6 s7 s8 s11 s13) := by
  go_enter Try.func49, Try.ntmps49
  have H0 := H.blkNew #[.nilFunc, .nilFunc, .nilFunc, .nilFunc, .nilFunc, .nilFunc, .nilFunc, .nilFunc, .nilFunc, .nilFunc, .nilFunc, .nilFunc, .nilFunc, .nilFunc] 88
  go_wp2_with fail
  refine (tell_h H0 xb 2).mono ?_
  rintro e w1 ⟨s2, rfl, H1⟩
  go_wp2_with fail
  refine (tell_h H1 xb 3).mono ?_
  rintro e w2 ⟨s4, rfl, H2⟩
  go_wp2_with fail
  refine (tell_h H2 xb 4).mono ?_
  rintro e w3 ⟨s6, rfl, H3⟩
  go_wp2_with fail
  refine (count_h H3 xb 8).mono ?_
  rintro e w4 ⟨s7, rfl, H4⟩
  go_wp2_with fail
  refine (count_h H4 xb 9).mono ?_
  rintro e w5 ⟨s8, rfl, H5⟩
  go_wp2_with fail
  refine (tell_h H5 xb 5).mono ?_
  rintro e w6 ⟨s11, rfl, H6⟩
  go_wp2_with fail
  refine (tell_h H6 xb 0).mono ?_
  rintro e w7 ⟨s13, rfl, H7⟩
  have H8' : Has w0 w7 (cs ++ [blkC _ w.heap.size #[.nilFunc, .nilFunc, .nilFunc, .nilFunc, .nilFunc, .nilFunc, .nilFunc, .nilFunc, .nilFunc, .nilFunc, .nilFunc, .nilFunc, .nilFunc, .nilFunc] 88, bxC _ s2 xb, byC _ (s2 + 1) 2, bxC _ s4 xb, byC _ (s4 + 1) 3, bxC _ s6 xb, byC _ (s6 + 1) 4, bxC _ s7 xb, byC _ (s7 + 1) 8, bxC _ s8 xb, byC _ (s8 + 1) 9, bxC _ s11 xb, byC _ (s11 + 1) 5, bxC _ s13 xb, byC _ (s13 + 1) 0]) := by simpa only [List.append_assoc, List.cons_append, List.nil_append] using H7
  obtain ⟨BX, hBX⟩ : ∃ BX : List (Chunk w0.heap.size), BX = [bxC _ s2 xb, byC _ (s2 + 1) 2, bxC _ s4 xb, byC _ (s4 + 1) 3, bxC _ s6 xb, byC _ (s6 + 1) 4, bxC _ s7 xb, byC _ (s7 + 1) 8, bxC _ s8 xb, byC _ (s8 + 1) 9, bxC _ s11 xb, byC _ (s11 + 1) 5, bxC _ s13 xb, byC _ (s13 + 1) 0] := ⟨_, rfl⟩
  have H8 : Has w0 w7 (cs ++ blkC _ w.heap.size #[.nilFunc, .nilFunc, .nilFunc, .nilFunc, .nilFunc, .nilFunc, .nilFunc, .nilFunc, .nilFunc, .nilFunc, .nilFunc, .nilFunc, .nilFunc, .nilFunc] 88 :: BX) := by rw [hBX]; exact H8'
  have HBX := Lib.hid hBX
  clear H0 H1 H2 H3 H4 H5 H6 H7 H8' hBX
  obtain ⟨r0, r1, r2, r3, r4, r5, r6, r7, r8, r9, r10, r11, r12, r13, fr⟩ := row14 (H8.get (cs.length + 0) (get_at cs _ 0))
  go_wp2_with fail
  have K0 : Has w0 _ (cs ++ blkC _ w.heap.size #[.func (.func 66) #[.pointer (some ⟨xb, 0, none⟩)] #[], .nilFunc, .nilFunc, .nilFunc, .nilFunc, .nilFunc, .nilFunc, .nilFunc, .nilFunc, .nilFunc, .nilFunc, .nilFunc, .nilFunc, .nilFunc] 88 :: BX) := H8.more0 0 (.func (.func 66) #[.pointer (some ⟨xb, 0, none⟩)] #[])
  have K1 : Has w0 _ (cs ++ blkC _ w.heap.size #[.func (.func 66) #[.pointer (some ⟨xb, 0, none⟩)] #[], .func (.func 67) #[.pointer (some ⟨xb, 0, none⟩)] #[], .nilFunc, .nilFunc, .nilFunc, .nilFunc, .nilFunc, .nilFunc, .nilFunc, .nilFunc, .nilFunc, .nilFunc, .nilFunc, .nilFunc] 88 :: BX) := K0.more0 1 (.func (.func 67) #[.pointer (some ⟨xb, 0, none⟩)] #[])
  have K2 : Has w0 _ (cs ++ blkC _ w.heap.size #[.func (.func 66) #[.pointer (some ⟨xb, 0, none⟩)] #[], .func (.func 67) #[.pointer (some ⟨xb, 0, none⟩)] #[], .func (.func 79) #[] #[.pointer (some ⟨s2, 0, none⟩), .pointer (some ⟨s2 + 1, 0, none⟩)], .nilFunc, .nilFunc, .nilFunc, .nilFunc, .nilFunc, .nilFunc, .nilFunc, .nilFunc, .nilFunc, .nilFunc, .nilFunc] 88 :: BX) := K1.more0 2 (.func (.func 79) #[] #[.pointer (some ⟨s2, 0, none⟩), .pointer (some ⟨s2 + 1, 0, none⟩)])
  have K3 : Has w0 _ (cs ++ blkC _ w.heap.size #[.func (.func 66) #[.pointer (some ⟨xb, 0, none⟩)] #[], .func (.func 67) #[.pointer (some ⟨xb, 0, none⟩)] #[], .func (.func 79) #[] #[.pointer (some ⟨s2, 0, none⟩), .pointer (some ⟨s2 + 1, 0, none⟩)], .func (.func 69) #[.pointer (some ⟨xb, 0, none⟩)] #[], .nilFunc, .nilFunc, .nilFunc, .nilFunc, .nilFunc, .nilFunc, .nilFunc, .nilFunc, .nilFunc, .nilFunc] 88 :: BX) := K2.more0 3 (.func (.func 69) #[.pointer (some ⟨xb, 0, none⟩)] #[])
  have K4 : Has w0 _ (cs ++ blkC _ w.heap.size #[.func (.func 66) #[.pointer (some ⟨xb, 0, none⟩)] #[], .func (.func 67) #[.pointer (some ⟨xb, 0, none⟩)] #[], .func (.func 79) #[] #[.pointer (some ⟨s2, 0, none⟩), .pointer (some ⟨s2 + 1, 0, none⟩)], .func (.func 69) #[.pointer (some ⟨xb, 0, none⟩)] #[], .func (.func 79) #[] #[.pointer (some ⟨s4, 0, none⟩), .pointer (some ⟨s4 + 1, 0, none⟩)], .nilFunc, .nilFunc, .nilFunc, .nilFunc, .nilFunc, .nilFunc, .nilFunc, .nilFunc, .nilFunc] 88 :: BX) := K3.more0 4 (.func (.func 79) #[] #[.pointer (some ⟨s4, 0, none⟩), .pointer (some ⟨s4 + 1, 0, none⟩)])
  have K5 : Has w0 _ (cs ++ blkC _ w.heap.size #[.func (.func 66) #[.pointer (some ⟨xb, 0, none⟩)] #[], .func (.func 67) #[.pointer (some ⟨xb, 0, none⟩)] #[], .func (.func 79) #[] #[.pointer (some ⟨s2, 0, none⟩), .pointer (some ⟨s2 + 1, 0, none⟩)], .func (.func 69) #[.pointer (some ⟨xb, 0, none⟩)] #[], .func (.func 79) #[] #[.pointer (some ⟨s4, 0, none⟩), .pointer (some ⟨s4 + 1, 0, none⟩)], .func (.func 70) #[.pointer (some ⟨xb, 0, none⟩)] #[], .nilFunc, .nilFunc, .nilFunc, .nilFunc, .nilFunc, .nilFunc, .nilFunc, .nilFunc] 88 :: BX) := K4.more0 5 (.func (.func 70) #[.pointer (some ⟨xb, 0, none⟩)] #[])
  have K6 : Has w0 _ (cs ++ blkC _ w.heap.size #[.func (.func 66) #[.pointer (some ⟨xb, 0, none⟩)] #[], .func (.func 67) #[.pointer (some ⟨xb, 0, none⟩)] #[], .func (.func 79) #[] #[.pointer (some ⟨s2, 0, none⟩), .pointer (some ⟨s2 + 1, 0, none⟩)], .func (.func 69) #[.pointer (some ⟨xb, 0, none⟩)] #[], .func (.func 79) #[] #[.pointer (some ⟨s4, 0, none⟩), .pointer (some ⟨s4 + 1, 0, none⟩)], .func (.func 70) #[.pointer (some ⟨xb, 0, none⟩)] #[], .func (.func 79) #[] #[.pointer (some ⟨s6, 0, none⟩), .pointer (some ⟨s6 + 1, 0, none⟩)], .nilFunc, .nilFunc, .nilFunc, .nilFunc, .nilFunc, .nilFunc, .nilFunc] 88 :: BX) := K5.more0 6 (.func (.func 79) #[] #[.pointer (some ⟨s6, 0, none⟩), .pointer (some ⟨s6 + 1, 0, none⟩)])
  have K7 : Has w0 _ (cs ++ blkC _ w.heap.size #[.func (.func 66) #[.pointer (some ⟨xb, 0, none⟩)] #[], .func (.func 67) #[.pointer (some ⟨xb, 0, none⟩)] #[], .func (.func 79) #[] #[.pointer (some ⟨s2, 0, none⟩), .pointer (some ⟨s2 + 1, 0, none⟩)], .func (.func 69) #[.pointer (some ⟨xb, 0, none⟩)] #[], .func (.func 79) #[] #[.pointer (some ⟨s4, 0, none⟩), .pointer (some ⟨s4 + 1, 0, none⟩)], .func (.func 70) #[.pointer (some ⟨xb, 0, none⟩)] #[], .func (.func 79) #[] #[.pointer (some ⟨s6, 0, none⟩), .pointer (some ⟨s6 + 1, 0, none⟩)], .func (.func 80) #[] #[.pointer (some ⟨s7, 0, none⟩), .pointer (some ⟨s7 + 1, 0, none⟩)], .nilFunc, .nilFunc, .nilFunc, .nilFunc, .nilFunc, .nilFunc] 88 :: BX) := K6.more0 7 (.func (.func 80) #[] #[.pointer (some ⟨s7, 0, none⟩), .pointer (some ⟨s7 + 1, 0, none⟩)])
  have K8 : Has w0 _ (cs ++ blkC _ w.heap.size #[.func (.func 66) #[.pointer (some ⟨xb, 0, none⟩)] #[], .func (.func 67) #[.pointer (some ⟨xb, 0, none⟩)] #[], .func (.func 79) #[] #[.pointer (some ⟨s2, 0, none⟩), .pointer (some ⟨s2 + 1, 0, none⟩)], .func (.func 69) #[.pointer (some ⟨xb, 0, none⟩)] #[], .func (.func 79) #[] #[.pointer (some ⟨s4, 0, none⟩), .pointer (some ⟨s4 + 1, 0, none⟩)], .func (.func 70) #[.pointer (some ⟨xb, 0, none⟩)] #[], .func (.func 79) #[] #[.pointer (some ⟨s6, 0, none⟩), .pointer (some ⟨s6 + 1, 0, none⟩)], .func (.func 80) #[] #[.pointer (some ⟨s7, 0, none⟩), .pointer (some ⟨s7 + 1, 0, none⟩)], .func (.func 80) #[] #[.pointer (some ⟨s8, 0, none⟩), .pointer (some ⟨s8 + 1, 0, none⟩)], .nilFunc, .nilFunc, .nilFunc, .nilFunc, .nilFunc] 88 :: BX) := K7.more0 8 (.func (.func 80) #[] #[.pointer (some ⟨s8, 0, none⟩), .pointer (some ⟨s8 + 1, 0, none⟩)])
  have K9 : Has w0 _ (cs ++ blkC _ w.heap.size #[.func (.func 66) #[.pointer (some ⟨xb, 0, none⟩)] #[], .func (.func 67) #[.pointer (some ⟨xb, 0, none⟩)] #[], .func (.func 79) #[] #[.pointer (some ⟨s2, 0, none⟩), .pointer (some ⟨s2 + 1, 0, none⟩)], .func (.func 69) #[.pointer (some ⟨xb, 0, none⟩)] #[], .func (.func 79) #[] #[.pointer (some ⟨s4, 0, none⟩), .pointer (some ⟨s4 + 1, 0, none⟩)], .func (.func 70) #[.pointer (some ⟨xb, 0, none⟩)] #[], .func (.func 79) #[] #[.pointer (some ⟨s6, 0, none⟩), .pointer (some ⟨s6 + 1, 0, none⟩)], .func (.func 80) #[] #[.pointer (some ⟨s7, 0, none⟩), .pointer (some ⟨s7 + 1, 0, none⟩)], .func (.func 80) #[] #[.pointer (some ⟨s8, 0, none⟩), .pointer (some ⟨s8 + 1, 0, none⟩)], .func (.func 72) #[.pointer (some ⟨xb, 0, none⟩)] #[], .nilFunc, .nilFunc, .nilFunc, .nilFunc] 88 :: BX) := K8.more0 9 (.func (.func 72) #[.pointer (some ⟨xb, 0, none⟩)] #[])
  have K10 : Has w0 _ (cs ++ blkC _ w.heap.size #[.func (.func 66) #[.pointer (some ⟨xb, 0, none⟩)] #[], .func (.func 67) #[.pointer (some ⟨xb, 0, none⟩)] #[], .func (.func 79) #[] #[.pointer (some ⟨s2, 0, none⟩), .pointer (some ⟨s2 + 1, 0, none⟩)], .func (.func 69) #[.pointer (some ⟨xb, 0, none⟩)] #[], .func (.func 79) #[] #[.pointer (some ⟨s4, 0, none⟩), .pointer (some ⟨s4 + 1, 0, none⟩)], .func (.func 70) #[.pointer (some ⟨xb, 0, none⟩)] #[], .func (.func 79) #[] #[.pointer (some ⟨s6, 0, none⟩), .pointer (some ⟨s6 + 1, 0, none⟩)], .func (.func 80) #[] #[.pointer (some ⟨s7, 0, none⟩), .pointer (some ⟨s7 + 1, 0, none⟩)], .func (.func 80) #[] #[.pointer (some ⟨s8, 0, none⟩), .pointer (some ⟨s8 + 1, 0, none⟩)], .func (.func 72) #[.pointer (some ⟨xb, 0, none⟩)] #[], .func (.func 73) #[.pointer (some ⟨xb, 0, none⟩)] #[], .nilFunc, .nilFunc, .nilFunc] 88 :: BX) := K9.more0 10 (.func (.func 73) #[.pointer (some ⟨xb, 0, none⟩)] #[])
  have K11 : Has w0 _ (cs ++ blkC _ w.heap.size #[.func (.func 66) #[.pointer (some ⟨xb, 0, none⟩)] #[], .func (.func 67) #[.pointer (some ⟨xb, 0, none⟩)] #[], .func (.func 79) #[] #[.pointer (some ⟨s2, 0, none⟩), .pointer (some ⟨s2 + 1, 0, none⟩)], .func (.func 69) #[.pointer (some ⟨xb, 0, none⟩)] #[], .func (.func 79) #[] #[.pointer (some ⟨s4, 0, none⟩), .pointer (some ⟨s4 + 1, 0, none⟩)], .func (.func 70) #[.pointer (some ⟨xb, 0, none⟩)] #[], .func (.func 79) #[] #[.pointer (some ⟨s6, 0, none⟩), .pointer (some ⟨s6 + 1, 0, none⟩)], .func (.func 80) #[] #[.pointer (some ⟨s7, 0, none⟩), .pointer (some ⟨s7 + 1, 0, none⟩)], .func (.func 80) #[] #[.pointer (some ⟨s8, 0, none⟩), .pointer (some ⟨s8 + 1, 0, none⟩)], .func (.func 72) #[.pointer (some ⟨xb, 0, none⟩)] #[], .func (.func 73) #[.pointer (some ⟨xb, 0, none⟩)] #[], .func (.func 79) #[] #[.pointer (some ⟨s11, 0, none⟩), .pointer (some ⟨s11 + 1, 0, none⟩)], .nilFunc, .nilFunc] 88 :: BX) := K10.more0 11 (.func (.func 79) #[] #[.pointer (some ⟨s11, 0, none⟩), .pointer (some ⟨s11 + 1, 0, none⟩)])
  have K12 : Has w0 _ (cs ++ blkC _ w.heap.size #[.func (.func 66) #[.pointer (some ⟨xb, 0, none⟩)] #[], .func (.func 67) #[.pointer (some ⟨xb, 0, none⟩)] #[], .func (.func 79) #[] #[.pointer (some ⟨s2, 0, none⟩), .pointer (some ⟨s2 + 1, 0, none⟩)], .func (.func 69) #[.pointer (some ⟨xb, 0, none⟩)] #[], .func (.func 79) #[] #[.pointer (some ⟨s4, 0, none⟩), .pointer (some ⟨s4 + 1, 0, none⟩)], .func (.func 70) #[.pointer (some ⟨xb, 0, none⟩)] #[], .func (.func 79) #[] #[.pointer (some ⟨s6, 0, none⟩), .pointer (some ⟨s6 + 1, 0, none⟩)], .func (.func 80) #[] #[.pointer (some ⟨s7, 0, none⟩), .pointer (some ⟨s7 + 1, 0, none⟩)], .func (.func 80) #[] #[.pointer (some ⟨s8, 0, none⟩), .pointer (some ⟨s8 + 1, 0, none⟩)], .func (.func 72) #[.pointer (some ⟨xb, 0, none⟩)] #[], .func (.func 73) #[.pointer (some ⟨xb, 0, none⟩)] #[], .func (.func 79) #[] #[.pointer (some ⟨s11, 0, none⟩), .pointer (some ⟨s11 + 1, 0, none⟩)], .func (.func 74) #[.pointer (some ⟨xb, 0, none⟩)] #[], .nilFunc] 88 :: BX) := K11.more0 12 (.func (.func 74) #[.pointer (some ⟨xb, 0, none⟩)] #[])
  have K13 : Has w0 _ (cs ++ blkC _ w.heap.size #[.func (.func 66) #[.pointer (some ⟨xb, 0, none⟩)] #[], .func (.func 67) #[.pointer (some ⟨xb, 0, none⟩)] #[], .func (.func 79) #[] #[.pointer (some ⟨s2, 0, none⟩), .pointer (some ⟨s2 + 1, 0, none⟩)], .func (.func 69) #[.pointer (some ⟨xb, 0, none⟩)] #[], .func (.func 79) #[] #[.pointer (some ⟨s4, 0, none⟩), .pointer (some ⟨s4 + 1, 0, none⟩)], .func (.func 70) #[.pointer (some ⟨xb, 0, none⟩)] #[], .func (.func 79) #[] #[.pointer (some ⟨s6, 0, none⟩), .pointer (some ⟨s6 + 1, 0, none⟩)], .func (.func 80) #[] #[.pointer (some ⟨s7, 0, none⟩), .pointer (some ⟨s7 + 1, 0, none⟩)], .func (.func 80) #[] #[.pointer (some ⟨s8, 0, none⟩), .pointer (some ⟨s8 + 1, 0, none⟩)], .func (.func 72) #[.pointer (some ⟨xb, 0, none⟩)] #[], .func (.func 73) #[.pointer (some ⟨xb, 0, none⟩)] #[], .func (.func 79) #[] #[.pointer (some ⟨s11, 0, none⟩), .pointer (some ⟨s11 + 1, 0, none⟩)], .func (.func 74) #[.pointer (some ⟨xb, 0, none⟩)] #[], .func (.func 79) #[] #[.pointer (some ⟨s13, 0, none⟩), .pointer (some ⟨s13 + 1, 0, none⟩)]] 88 :: BX) := K12.more0 13 (.func (.func 79) #[] #[.pointer (some ⟨s13, 0, none⟩), .pointer (some ⟨s13 + 1, 0, none⟩)])
  rw [HBX.out] at K13
  have H9 : Has w0 _ (cs ++ dtBoxes _ w.heap.size xb s2 s4 s6 s7 s8 s11 s13) := K13
  clear K0 K1 K2 K3 K4 K5 K6 K7 K8 K9 K10 K11 K12 K13
  obtain ⟨W, HW, eW⟩ := H9.name
  rw [← eW.out]
  clear H8 H9 r0 r1 r2 r3 r4 r5 r6 r7 r8 r9 r10 r11 r12 r13 fr
  obtain ⟨r0, r1, r2, r3, r4, r5, r6, r7, r8, r9, r10, r11, r12, r13, fr⟩ := row14 (HW.get (cs.length + 0) (get_at cs _ 0))
  refine bodyPost_ret (v := .agg (dtFns xb s2 s4 s6 s7 s8 s11 s13)) ?_ rfl ⟨w.heap.size, s2, s4, s6, s7, s8, s11, s13, rfl, HW⟩
  have R : W.rangeAt w.heap.size 0 (dtFns xb s2 s4 s6 s7 s8 s11 s13).toList := by
    have hb : W.heap[w.heap.size]? = some (.cells (dtFns xb s2 s4 s6 s7 s8 s11 s13) 88 (0, 0)) := HW.get (cs.length + 0) (get_at cs _ 0)
    have := World.rangeAt_of_block hb 0 14
    exact this
  have L := run_loadVar_mid W w.heap.size 0 88 _ _ R Try.underlying88 rfl (by kernel_rfl)
  rw [show (dtFns xb s2 s4 s6 s7 s8 s11 s13).toList.toArray = dtFns xb s2 s4 s6 s7 s8 s11 s13 from by simp] at L
  simp [results, Try.results49, L, asAddr]


theorem said_eta (c : Cfg) (l : List Int) (d : Nat) (cy t least : Int) : dtSaid c l d cy t least = ⟨(dtSaid c l d cy t least).doing, cy, (dtSaid c l d cy t least).turn, 0, 0, 0⟩ := by
  rcases said_cases c l d cy t least with ⟨_, e⟩ | ⟨_, _, e⟩ | ⟨_, _, e⟩ <;> rw [e]

section
variable {w0 w : World} {cs : List (Chunk w0.heap.size)} (H : Has w0 w cs) (i j q : Nat) {sb g xb mb : Nat} {l : List Int} {n : Int} {av rv : Value} {c : Cfg} (hi : cs[i]? = some (storeC _ sb g l n)) (hq : cs[q]? = some (mapC _ mb av rv c)) (hij : i ≠ j) (h : CfgOk c)
include H hi hq hij h

set_option maxRecDepth 100000 in
set_option maxHeartbeats 4000000 in
theorem dtStep0e (cy t ek ea eb dr : Int) (hj : cs[j]? = some (dtC _ xb mb ⟨0, cy, t, ek, ea, eb⟩)) (c0 : 0 ≤ cy) (c1 : cy < 999999) (r0 : 0 ≤ dr) (hB : (dr % 2 == 0) = true) :
    Calls Try.prog 16 #[.pointer (some ⟨xb, 0, none⟩), .pointer (some ⟨sb, 0, none⟩), .int .i64 dr] w fun e w' => e = .returned (.tuple #[]) ∧
      Has w0 w' ((cs.set i (storeC _ sb g (dtStep c l ⟨0, cy, t, ek, ea, eb⟩ dr).1 (dtCount ⟨0, cy, t, ek, ea, eb⟩ dr n))).set j (dtC _ xb mb (dtStep c l ⟨0, cy, t, ek, ea, eb⟩ dr).2)) := by
  obtain ⟨x0, x1, x2, x3, x4, x5, x6, x7, x8, fx⟩ := row9 (H.get j hj)
  have IJ := Lib.hid hij
  clear hij
  have HB := Lib.hid hB
  clear hB
  dsimp only at x1 x2 x3 x4 x5 x6 x7 x8
  go_enter Try.func16, Try.ntmps16
  have jl := (List.getElem?_eq_some_iff.1 hj).1
  have H1 : Has w0 _ (cs.set j (dtC _ xb mb ⟨0, cy, t, 0, 0, 0⟩)) := ((((H.blkSet j hj 4 (.int .i64 0)).more jl 5 (.int .i64 0)).more jl 6 (.int .i64 0)).more jl 7 (.int .i64 0)).more jl 8 (.int .i64 0)
  have JL := Lib.hid jl
  clear jl
  go_wp2_with fail
  obtain ⟨W, HW, eW⟩ := H1.name
  rw [← eW.out]
  clear H1 eW x0 x1 x2 x3 x4 x5 x6 x7 x8 fx
  have QJ : j ≠ q := by rintro rfl; rw [hj] at hq; exact absurd (congrArg (fun o => o.map Chunk.ro) hq) (by simp [dtC, blkC, mapC])
  have hj2 := lset_same2 hj (dtC w0.heap.size xb mb ⟨0, cy, t, 0, 0, 0⟩)
  have hi2 := set_get2 hi (dtC w0.heap.size xb mb ⟨0, cy, t, 0, 0, 0⟩) (Ne.symm IJ.out)
  have hq2 := set_get2 hq (dtC w0.heap.size xb mb ⟨0, cy, t, 0, 0, 0⟩) QJ
  clear QJ
  generalize hcs : cs.set j (dtC w0.heap.size xb mb ⟨0, cy, t, 0, 0, 0⟩) = ds at HW hi2 hj2 hq2
  have HCS := Lib.hid hcs
  clear hcs
  refine (does_h HW xb).mono ?_
  rintro e w1 ⟨rb, s2, s4, s6, s7, s8, s11, s13, rfl, H2⟩
  unfold dtFns
  obtain ⟨x0, x1, x2, x3, x4, x5, x6, x7, x8, fx⟩ := row9 (H2.get j (get_app hj2 _))
  have xd : w1.cell? ⟨xb, 1, none⟩ = some (.int .i64 0) := x1
  have xs : xb < w1.heap.size := (H2.lt j _ (get_app hj2 _) xb (by simp [dtC, blkC])).1
  have fq := fx 0
  clear x0 x1 x2 x3 x4 x5 x6 x7 x8
  have H3 := H2.blkNew #[.func (.func 66) #[.pointer (some ⟨xb, 0, none⟩)] #[], .func (.func 67) #[.pointer (some ⟨xb, 0, none⟩)] #[], .func (.func 79) #[] #[.pointer (some ⟨s2, 0, none⟩), .pointer (some ⟨s2 + 1, 0, none⟩)], .func (.func 69) #[.pointer (some ⟨xb, 0, none⟩)] #[], .func (.func 79) #[] #[.pointer (some ⟨s4, 0, none⟩), .pointer (some ⟨s4 + 1, 0, none⟩)], .func (.func 70) #[.pointer (some ⟨xb, 0, none⟩)] #[], .func (.func 79) #[] #[.pointer (some ⟨s6, 0, none⟩), .pointer (some ⟨s6 + 1, 0, none⟩)], .func (.func 80) #[] #[.pointer (some ⟨s7, 0, none⟩), .pointer (some ⟨s7 + 1, 0, none⟩)], .func (.func 80) #[] #[.pointer (some ⟨s8, 0, none⟩), .pointer (some ⟨s8 + 1, 0, none⟩)], .func (.func 72) #[.pointer (some ⟨xb, 0, none⟩)] #[], .func (.func 73) #[.pointer (some ⟨xb, 0, none⟩)] #[], .func (.func 79) #[] #[.pointer (some ⟨s11, 0, none⟩), .pointer (some ⟨s11 + 1, 0, none⟩)], .func (.func 74) #[.pointer (some ⟨xb, 0, none⟩)] #[], .func (.func 79) #[] #[.pointer (some ⟨s13, 0, none⟩), .pointer (some ⟨s13 + 1, 0, none⟩)]] 88
  go_wp2_with fail
  obtain ⟨V, HV, eV⟩ := H3.name
  rw [← eV.out]
  rw [List.append_assoc] at HV
  generalize hbx : dtBoxes w0.heap.size rb xb s2 s4 s6 s7 s8 s11 s13 ++ _ = BX at HV
  have HBX := Lib.hid hbx
  clear hbx
  clear H2 H3 eV xd xs fq fx
  refine (rest_h HV i j q (get_app hi2 _) (get_app hq2 _) IJ.out h cy t dr (get_app hj2 _) c0 c1 r0).mono ?_
  rw [HB.out]
  simp only [cond_true]
  rintro e w2 ⟨rfl, H5⟩
  have H6 := H5.front
  obtain ⟨x0, x1, x2, x3, x4, x5, x6, x7, x8, fx⟩ := row9 (H6.get j hj2)
  go_wp2_with fail
  go_end0
  refine ⟨rfl, ?_⟩
  have H7 := H6.blkSet j hj2 1 (.int .i64 0)
  have e1 : dtStep c l ⟨0, cy, t, ek, ea, eb⟩ dr = (l, ⟨0, cy, t, 0, 0, 0⟩) := by show (bif dr % 2 == 0 then _ else _) = _; rw [HB.out]; rfl
  have e2 : dtCount ⟨0, cy, t, ek, ea, eb⟩ dr n = n := by show (bif (true && dr % 2 == 0) then _ else _) = _; rw [HB.out]; rfl
  have e3 : cs.set i (storeC w0.heap.size sb g l n) = cs := by
    apply List.ext_getElem?
    intro k
    by_cases hk : i = k
    · subst hk; rw [List.getElem?_set_self (List.getElem?_eq_some_iff.1 hi).1, hi]
    · rw [List.getElem?_set_ne hk]
  rw [e1, e2, e3]
  rw [← HCS.out, List.set_set] at H7
  exact H7

set_option maxRecDepth 100000 in
set_option maxHeartbeats 4000000 in
theorem dtStep0o (cy t ek ea eb dr : Int) (hj : cs[j]? = some (dtC _ xb mb ⟨0, cy, t, ek, ea, eb⟩)) (c0 : 0 ≤ cy) (c1 : cy < 999999) (r0 : 0 ≤ dr) (hB : (dr % 2 == 0) = false) :
    Calls Try.prog 16 #[.pointer (some ⟨xb, 0, none⟩), .pointer (some ⟨sb, 0, none⟩), .int .i64 dr] w fun e w' => e = .returned (.tuple #[]) ∧
      Has w0 w' ((cs.set i (storeC _ sb g (dtStep c l ⟨0, cy, t, ek, ea, eb⟩ dr).1 (dtCount ⟨0, cy, t, ek, ea, eb⟩ dr n))).set j (dtC _ xb mb (dtStep c l ⟨0, cy, t, ek, ea, eb⟩ dr).2)) := by
  obtain ⟨x0, x1, x2, x3, x4, x5, x6, x7, x8, fx⟩ := row9 (H.get j hj)
  have IJ := Lib.hid hij
  clear hij
  have HB := Lib.hid hB
  clear hB
  dsimp only at x1 x2 x3 x4 x5 x6 x7 x8
  go_enter Try.func16, Try.ntmps16
  have jl := (List.getElem?_eq_some_iff.1 hj).1
  have H1 : Has w0 _ (cs.set j (dtC _ xb mb ⟨0, cy, t, 0, 0, 0⟩)) := ((((H.blkSet j hj 4 (.int .i64 0)).more jl 5 (.int .i64 0)).more jl 6 (.int .i64 0)).more jl 7 (.int .i64 0)).more jl 8 (.int .i64 0)
  have JL := Lib.hid jl
  clear jl
  go_wp2_with fail
  obtain ⟨W, HW, eW⟩ := H1.name
  rw [← eW.out]
  clear H1 eW x0 x1 x2 x3 x4 x5 x6 x7 x8 fx
  have QJ : j ≠ q := by rintro rfl; rw [hj] at hq; exact absurd (congrArg (fun o => o.map Chunk.ro) hq) (by simp [dtC, blkC, mapC])
  have hj2 := lset_same2 hj (dtC w0.heap.size xb mb ⟨0, cy, t, 0, 0, 0⟩)
  have hi2 := set_get2 hi (dtC w0.heap.size xb mb ⟨0, cy, t, 0, 0, 0⟩) (Ne.symm IJ.out)
  have hq2 := set_get2 hq (dtC w0.heap.size xb mb ⟨0, cy, t, 0, 0, 0⟩) QJ
  clear QJ
  generalize hcs : cs.set j (dtC w0.heap.size xb mb ⟨0, cy, t, 0, 0, 0⟩) = ds at HW hi2 hj2 hq2
  have HCS := Lib.hid hcs
  clear hcs
  refine (does_h HW xb).mono ?_
  rintro e w1 ⟨rb, s2, s4, s6, s7, s8, s11, s13, rfl, H2⟩
  unfold dtFns
  obtain ⟨x0, x1, x2, x3, x4, x5, x6, x7, x8, fx⟩ := row9 (H2.get j (get_app hj2 _))
  have xd : w1.cell? ⟨xb, 1, none⟩ = some (.int .i64 0) := x1
  have xs : xb < w1.heap.size := (H2.lt j _ (get_app hj2 _) xb (by simp [dtC, blkC])).1
  have fq := fx 0
  clear x0 x1 x2 x3 x4 x5 x6 x7 x8
  have H3 := H2.blkNew #[.func (.func 66) #[.pointer (some ⟨xb, 0, none⟩)] #[], .func (.func 67) #[.pointer (some ⟨xb, 0, none⟩)] #[], .func (.func 79) #[] #[.pointer (some ⟨s2, 0, none⟩), .pointer (some ⟨s2 + 1, 0, none⟩)], .func (.func 69) #[.pointer (some ⟨xb, 0, none⟩)] #[], .func (.func 79) #[] #[.pointer (some ⟨s4, 0, none⟩), .pointer (some ⟨s4 + 1, 0, none⟩)], .func (.func 70) #[.pointer (some ⟨xb, 0, none⟩)] #[], .func (.func 79) #[] #[.pointer (some ⟨s6, 0, none⟩), .pointer (some ⟨s6 + 1, 0, none⟩)], .func (.func 80) #[] #[.pointer (some ⟨s7, 0, none⟩), .pointer (some ⟨s7 + 1, 0, none⟩)], .func (.func 80) #[] #[.pointer (some ⟨s8, 0, none⟩), .pointer (some ⟨s8 + 1, 0, none⟩)], .func (.func 72) #[.pointer (some ⟨xb, 0, none⟩)] #[], .func (.func 73) #[.pointer (some ⟨xb, 0, none⟩)] #[], .func (.func 79) #[] #[.pointer (some ⟨s11, 0, none⟩), .pointer (some ⟨s11 + 1, 0, none⟩)], .func (.func 74) #[.pointer (some ⟨xb, 0, none⟩)] #[], .func (.func 79) #[] #[.pointer (some ⟨s13, 0, none⟩), .pointer (some ⟨s13 + 1, 0, none⟩)]] 88
  go_wp2_with fail
  obtain ⟨V, HV, eV⟩ := H3.name
  rw [← eV.out]
  rw [List.append_assoc] at HV
  generalize hbx : dtBoxes w0.heap.size rb xb s2 s4 s6 s7 s8 s11 s13 ++ _ = BX at HV
  have HBX := Lib.hid hbx
  clear hbx
  clear H2 H3 eV xd xs fq fx
  refine (rest_h HV i j q (get_app hi2 _) (get_app hq2 _) IJ.out h cy t dr (get_app hj2 _) c0 c1 r0).mono ?_
  rw [HB.out]
  simp only [cond_false]
  rintro e w2 ⟨rfl, H5⟩
  rw [set_front _ hi2, set_front _ (set_get2 hj2 _ IJ.out)] at H5
  have H6 := H5.front
  rw [← HCS.out, List.set_comm _ _ (Ne.symm IJ.out), List.set_set] at H6
  clear H5
  obtain ⟨x0, x1, x2, x3, x4, x5, x6, x7, x8, fx⟩ := row9 (H6.get j (lset_same2 (set_get2 hj _ IJ.out) _))
  go_wp2_with fail
  go_end0
  refine ⟨rfl, ?_⟩
  have e1 : dtStep c l ⟨0, cy, t, ek, ea, eb⟩ dr = dtTell l 0 (cy + 1) 1 := by show (bif dr % 2 == 0 then _ else _) = _; rw [HB.out]; rfl
  have e2 : dtCount ⟨0, cy, t, ek, ea, eb⟩ dr n = wrap64 (n + 1) := by show (bif (true && dr % 2 == 0) then _ else _) = _; rw [HB.out]; rfl
  rw [e1, e2]
  exact H6.more (by rw [List.length_set]; exact JL.out) 1 (.int .i64 1)

set_option maxRecDepth 100000 in
set_option maxHeartbeats 4000000 in
theorem dtStep1 (cy t ek ea eb dr : Int) (hj : cs[j]? = some (dtC _ xb mb ⟨1, cy, t, ek, ea, eb⟩)) (c0 : 1 ≤ cy) (c1 : cy < 999999) (t0 : 0 ≤ t) (t1 : t ≤ 4) :
    Calls Try.prog 16 #[.pointer (some ⟨xb, 0, none⟩), .pointer (some ⟨sb, 0, none⟩), .int .i64 dr] w fun e w' => e = .returned (.tuple #[]) ∧
      Has w0 w' ((cs.set i (storeC _ sb g (dtStep c l ⟨1, cy, t, ek, ea, eb⟩ dr).1 (dtCount ⟨1, cy, t, ek, ea, eb⟩ dr n))).set j (dtC _ xb mb (dtStep c l ⟨1, cy, t, ek, ea, eb⟩ dr).2)) := by
  obtain ⟨x0, x1, x2, x3, x4, x5, x6, x7, x8, fx⟩ := row9 (H.get j hj)
  have IJ := Lib.hid hij
  clear hij
  dsimp only at x1 x2 x3 x4 x5 x6 x7 x8
  go_enter Try.func16, Try.ntmps16
  have jl := (List.getElem?_eq_some_iff.1 hj).1
  have H1 : Has w0 _ (cs.set j (dtC _ xb mb ⟨1, cy, t, 0, 0, 0⟩)) := ((((H.blkSet j hj 4 (.int .i64 0)).more jl 5 (.int .i64 0)).more jl 6 (.int .i64 0)).more jl 7 (.int .i64 0)).more jl 8 (.int .i64 0)
  have JL := Lib.hid jl
  clear jl
  go_wp2_with fail
  obtain ⟨W, HW, eW⟩ := H1.name
  rw [← eW.out]
  clear H1 eW x0 x1 x2 x3 x4 x5 x6 x7 x8 fx
  have QJ : j ≠ q := by rintro rfl; rw [hj] at hq; exact absurd (congrArg (fun o => o.map Chunk.ro) hq) (by simp [dtC, blkC, mapC])
  have hj2 := lset_same2 hj (dtC w0.heap.size xb mb ⟨1, cy, t, 0, 0, 0⟩)
  have hi2 := set_get2 hi (dtC w0.heap.size xb mb ⟨1, cy, t, 0, 0, 0⟩) (Ne.symm IJ.out)
  have hq2 := set_get2 hq (dtC w0.heap.size xb mb ⟨1, cy, t, 0, 0, 0⟩) QJ
  clear QJ
  generalize hcs : cs.set j (dtC w0.heap.size xb mb ⟨1, cy, t, 0, 0, 0⟩) = ds at HW hi2 hj2 hq2
  have HCS := Lib.hid hcs
  clear hcs
  refine (does_h HW xb).mono ?_
  rintro e w1 ⟨rb, s2, s4, s6, s7, s8, s11, s13, rfl, H2⟩
  unfold dtFns
  obtain ⟨x0, x1, x2, x3, x4, x5, x6, x7, x8, fx⟩ := row9 (H2.get j (get_app hj2 _))
  have xd : w1.cell? ⟨xb, 1, none⟩ = some (.int .i64 1) := x1
  have xs : xb < w1.heap.size := (H2.lt j _ (get_app hj2 _) xb (by simp [dtC, blkC])).1
  have fq := fx 0
  clear x0 x1 x2 x3 x4 x5 x6 x7 x8
  have H3 := H2.blkNew #[.func (.func 66) #[.pointer (some ⟨xb, 0, none⟩)] #[], .func (.func 67) #[.pointer (some ⟨xb, 0, none⟩)] #[], .func (.func 79) #[] #[.pointer (some ⟨s2, 0, none⟩), .pointer (some ⟨s2 + 1, 0, none⟩)], .func (.func 69) #[.pointer (some ⟨xb, 0, none⟩)] #[], .func (.func 79) #[] #[.pointer (some ⟨s4, 0, none⟩), .pointer (some ⟨s4 + 1, 0, none⟩)], .func (.func 70) #[.pointer (some ⟨xb, 0, none⟩)] #[], .func (.func 79) #[] #[.pointer (some ⟨s6, 0, none⟩), .pointer (some ⟨s6 + 1, 0, none⟩)], .func (.func 80) #[] #[.pointer (some ⟨s7, 0, none⟩), .pointer (some ⟨s7 + 1, 0, none⟩)], .func (.func 80) #[] #[.pointer (some ⟨s8, 0, none⟩), .pointer (some ⟨s8 + 1, 0, none⟩)], .func (.func 72) #[.pointer (some ⟨xb, 0, none⟩)] #[], .func (.func 73) #[.pointer (some ⟨xb, 0, none⟩)] #[], .func (.func 79) #[] #[.pointer (some ⟨s11, 0, none⟩), .pointer (some ⟨s11 + 1, 0, none⟩)], .func (.func 74) #[.pointer (some ⟨xb, 0, none⟩)] #[], .func (.func 79) #[] #[.pointer (some ⟨s13, 0, none⟩), .pointer (some ⟨s13 + 1, 0, none⟩)]] 88
  go_wp2_with fail
  obtain ⟨V, HV, eV⟩ := H3.name
  rw [← eV.out]
  rw [List.append_assoc] at HV
  generalize hbx : dtBoxes w0.heap.size rb xb s2 s4 s6 s7 s8 s11 s13 ++ _ = BX at HV
  have HBX := Lib.hid hbx
  clear hbx
  clear H2 H3 eV xd xs fq fx
  have il := (List.getElem?_eq_some_iff.1 hi2).1
  have jl2 := (List.getElem?_eq_some_iff.1 hj2).1
  refine (arm_h HV i j q (get_app hi2 _) (get_app hq2 _) IJ.out h cy t dr (get_app hj2 _) t0 t1 c0 (by omega)).mono ?_
  rintro e w2 ⟨rfl, H5⟩
  rw [set_front _ hi2, set_front _ (set_get2 hj2 _ IJ.out)] at H5
  have H6 := H5.front
  rw [← HCS.out, List.set_comm _ _ (Ne.symm IJ.out), List.set_set] at H6
  clear H5
  obtain ⟨x0, x1, x2, x3, x4, x5, x6, x7, x8, fx⟩ := row9 (H6.get j (lset_same2 (set_get2 hj _ IJ.out) _))
  go_wp2_with fail
  go_end0
  refine ⟨rfl, ?_⟩
  rw [show (dtStep c l ⟨1, cy, t, ek, ea, eb⟩ dr).2 = ⟨(dtSaid c l 1 cy t (3 * cy - 2)).doing, cy, (dtSaid c l 1 cy t (3 * cy - 2)).turn, 0, 0, 0⟩ from said_eta c l 1 cy t (3 * cy - 2)]
  exact H6.more (by rw [List.length_set]; exact JL.out) 1 (.int .i64 (dtSaid c l 1 cy t (3 * cy - 2)).doing)

set_option maxRecDepth 100000 in
set_option maxHeartbeats 4000000 in
theorem dtStep2 (cy t ek ea eb dr : Int) (hj : cs[j]? = some (dtC _ xb mb ⟨2, cy, t, ek, ea, eb⟩)) (c0 : 1 ≤ cy) (c1 : cy < 999999) :
    Calls Try.prog 16 #[.pointer (some ⟨xb, 0, none⟩), .pointer (some ⟨sb, 0, none⟩), .int .i64 dr] w fun e w' => e = .returned (.tuple #[]) ∧
      Has w0 w' ((cs.set i (storeC _ sb g (dtStep c l ⟨2, cy, t, ek, ea, eb⟩ dr).1 (dtCount ⟨2, cy, t, ek, ea, eb⟩ dr n))).set j (dtC _ xb mb (dtStep c l ⟨2, cy, t, ek, ea, eb⟩ dr).2)) := by
  obtain ⟨x0, x1, x2, x3, x4, x5, x6, x7, x8, fx⟩ := row9 (H.get j hj)
  have IJ := Lib.hid hij
  clear hij
  dsimp only at x1 x2 x3 x4 x5 x6 x7 x8
  go_enter Try.func16, Try.ntmps16
  have jl := (List.getElem?_eq_some_iff.1 hj).1
  have H1 : Has w0 _ (cs.set j (dtC _ xb mb ⟨2, cy, t, 0, 0, 0⟩)) := ((((H.blkSet j hj 4 (.int .i64 0)).more jl 5 (.int .i64 0)).more jl 6 (.int .i64 0)).more jl 7 (.int .i64 0)).more jl 8 (.int .i64 0)
  have JL := Lib.hid jl
  clear jl
  go_wp2_with fail
  obtain ⟨W, HW, eW⟩ := H1.name
  rw [← eW.out]
  clear H1 eW x0 x1 x2 x3 x4 x5 x6 x7 x8 fx
  have QJ : j ≠ q := by rintro rfl; rw [hj] at hq; exact absurd (congrArg (fun o => o.map Chunk.ro) hq) (by simp [dtC, blkC, mapC])
  have hj2 := lset_same2 hj (dtC w0.heap.size xb mb ⟨2, cy, t, 0, 0, 0⟩)
  have hi2 := set_get2 hi (dtC w0.heap.size xb mb ⟨2, cy, t, 0, 0, 0⟩) (Ne.symm IJ.out)
  have hq2 := set_get2 hq (dtC w0.heap.size xb mb ⟨2, cy, t, 0, 0, 0⟩) QJ
  clear QJ
  generalize hcs : cs.set j (dtC w0.heap.size xb mb ⟨2, cy, t, 0, 0, 0⟩) = ds at HW hi2 hj2 hq2
  have HCS := Lib.hid hcs
  clear hcs
  refine (does_h HW xb).mono ?_
  rintro e w1 ⟨rb, s2, s4, s6, s7, s8, s11, s13, rfl, H2⟩
  unfold dtFns
  obtain ⟨x0, x1, x2, x3, x4, x5, x6, x7, x8, fx⟩ := row9 (H2.get j (get_app hj2 _))
  have xd : w1.cell? ⟨xb, 1, none⟩ = some (.int .i64 2) := x1
  have xs : xb < w1.heap.size := (H2.lt j _ (get_app hj2 _) xb (by simp [dtC, blkC])).1
  have fq := fx 0
  clear x0 x1 x2 x3 x4 x5 x6 x7 x8
  have H3 := H2.blkNew #[.func (.func 66) #[.pointer (some ⟨xb, 0, none⟩)] #[], .func (.func 67) #[.pointer (some ⟨xb, 0, none⟩)] #[], .func (.func 79) #[] #[.pointer (some ⟨s2, 0, none⟩), .pointer (some ⟨s2 + 1, 0, none⟩)], .func (.func 69) #[.pointer (some ⟨xb, 0, none⟩)] #[], .func (.func 79) #[] #[.pointer (some ⟨s4, 0, none⟩), .pointer (some ⟨s4 + 1, 0, none⟩)], .func (.func 70) #[.pointer (some ⟨xb, 0, none⟩)] #[], .func (.func 79) #[] #[.pointer (some ⟨s6, 0, none⟩), .pointer (some ⟨s6 + 1, 0, none⟩)], .func (.func 80) #[] #[.pointer (some ⟨s7, 0, none⟩), .pointer (some ⟨s7 + 1, 0, none⟩)], .func (.func 80) #[] #[.pointer (some ⟨s8, 0, none⟩), .pointer (some ⟨s8 + 1, 0, none⟩)], .func (.func 72) #[.pointer (some ⟨xb, 0, none⟩)] #[], .func (.func 73) #[.pointer (some ⟨xb, 0, none⟩)] #[], .func (.func 79) #[] #[.pointer (some ⟨s11, 0, none⟩), .pointer (some ⟨s11 + 1, 0, none⟩)], .func (.func 74) #[.pointer (some ⟨xb, 0, none⟩)] #[], .func (.func 79) #[] #[.pointer (some ⟨s13, 0, none⟩), .pointer (some ⟨s13 + 1, 0, none⟩)]] 88
  go_wp2_with fail
  obtain ⟨V, HV, eV⟩ := H3.name
  rw [← eV.out]
  rw [List.append_assoc] at HV
  generalize hbx : dtBoxes w0.heap.size rb xb s2 s4 s6 s7 s8 s11 s13 ++ _ = BX at HV
  have HBX := Lib.hid hbx
  clear hbx
  clear H2 H3 eV xd xs fq fx
  have il := (List.getElem?_eq_some_iff.1 hi2).1
  have jl2 := (List.getElem?_eq_some_iff.1 hj2).1
  refine (tell1_h HV i j q (get_app hi2 _) (get_app hq2 _) IJ.out h (ds.length + 1) (ds.length + 2) 2 cy t 2 0 0 0 dr (get_app hj2 _) (by rw [get_at, ← HBX.out]; rfl) (by rw [get_at, ← HBX.out]; rfl) (by omega) (by omega) (by omega) (by omega) (by omega) (by omega) (by decide)).mono ?_
  rintro e w2 ⟨rfl, H5⟩
  rw [set_front _ hi2, set_front _ (set_get2 hj2 _ IJ.out)] at H5
  have H6 := H5.front
  rw [← HCS.out, List.set_comm _ _ (Ne.symm IJ.out), List.set_set] at H6
  clear H5
  obtain ⟨x0, x1, x2, x3, x4, x5, x6, x7, x8, fx⟩ := row9 (H6.get j (lset_same2 (set_get2 hj _ IJ.out) _))
  go_wp2_with fail
  go_end0
  refine ⟨rfl, ?_⟩
  exact H6.more (by rw [List.length_set]; exact JL.out) 1 (.int .i64 ((2 + 1) % 14 : Nat))

set_option maxRecDepth 100000 in
set_option maxHeartbeats 4000000 in
theorem dtStep3 (cy t ek ea eb dr : Int) (hj : cs[j]? = some (dtC _ xb mb ⟨3, cy, t, ek, ea, eb⟩)) (c0 : 1 ≤ cy) (c1 : cy < 999999) (t0 : 0 ≤ t) (t1 : t ≤ 4) :
    Calls Try.prog 16 #[.pointer (some ⟨xb, 0, none⟩), .pointer (some ⟨sb, 0, none⟩), .int .i64 dr] w fun e w' => e = .returned (.tuple #[]) ∧
      Has w0 w' ((cs.set i (storeC _ sb g (dtStep c l ⟨3, cy, t, ek, ea, eb⟩ dr).1 (dtCount ⟨3, cy, t, ek, ea, eb⟩ dr n))).set j (dtC _ xb mb (dtStep c l ⟨3, cy, t, ek, ea, eb⟩ dr).2)) := by
  obtain ⟨x0, x1, x2, x3, x4, x5, x6, x7, x8, fx⟩ := row9 (H.get j hj)
  have IJ := Lib.hid hij
  clear hij
  dsimp only at x1 x2 x3 x4 x5 x6 x7 x8
  go_enter Try.func16, Try.ntmps16
  have jl := (List.getElem?_eq_some_iff.1 hj).1
  have H1 : Has w0 _ (cs.set j (dtC _ xb mb ⟨3, cy, t, 0, 0, 0⟩)) := ((((H.blkSet j hj 4 (.int .i64 0)).more jl 5 (.int .i64 0)).more jl 6 (.int .i64 0)).more jl 7 (.int .i64 0)).more jl 8 (.int .i64 0)
  have JL := Lib.hid jl
  clear jl
  go_wp2_with fail
  obtain ⟨W, HW, eW⟩ := H1.name
  rw [← eW.out]
  clear H1 eW x0 x1 x2 x3 x4 x5 x6 x7 x8 fx
  have QJ : j ≠ q := by rintro rfl; rw [hj] at hq; exact absurd (congrArg (fun o => o.map Chunk.ro) hq) (by simp [dtC, blkC, mapC])
  have hj2 := lset_same2 hj (dtC w0.heap.size xb mb ⟨3, cy, t, 0, 0, 0⟩)
  have hi2 := set_get2 hi (dtC w0.heap.size xb mb ⟨3, cy, t, 0, 0, 0⟩) (Ne.symm IJ.out)
  have hq2 := set_get2 hq (dtC w0.heap.size xb mb ⟨3, cy, t, 0, 0, 0⟩) QJ
  clear QJ
  generalize hcs : cs.set j (dtC w0.heap.size xb mb ⟨3, cy, t, 0, 0, 0⟩) = ds at HW hi2 hj2 hq2
  have HCS := Lib.hid hcs
  clear hcs
  refine (does_h HW xb).mono ?_
  rintro e w1 ⟨rb, s2, s4, s6, s7, s8, s11, s13, rfl, H2⟩
  unfold dtFns
  obtain ⟨x0, x1, x2, x3, x4, x5, x6, x7, x8, fx⟩ := row9 (H2.get j (get_app hj2 _))
  have xd : w1.cell? ⟨xb, 1, none⟩ = some (.int .i64 3) := x1
  have xs : xb < w1.heap.size := (H2.lt j _ (get_app hj2 _) xb (by simp [dtC, blkC])).1
  have fq := fx 0
  clear x0 x1 x2 x3 x4 x5 x6 x7 x8
  have H3 := H2.blkNew #[.func (.func 66) #[.pointer (some ⟨xb, 0, none⟩)] #[], .func (.func 67) #[.pointer (some ⟨xb, 0, none⟩)] #[], .func (.func 79) #[] #[.pointer (some ⟨s2, 0, none⟩), .pointer (some ⟨s2 + 1, 0, none⟩)], .func (.func 69) #[.pointer (some ⟨xb, 0, none⟩)] #[], .func (.func 79) #[] #[.pointer (some ⟨s4, 0, none⟩), .pointer (some ⟨s4 + 1, 0, none⟩)], .func (.func 70) #[.pointer (some ⟨xb, 0, none⟩)] #[], .func (.func 79) #[] #[.pointer (some ⟨s6, 0, none⟩), .pointer (some ⟨s6 + 1, 0, none⟩)], .func (.func 80) #[] #[.pointer (some ⟨s7, 0, none⟩), .pointer (some ⟨s7 + 1, 0, none⟩)], .func (.func 80) #[] #[.pointer (some ⟨s8, 0, none⟩), .pointer (some ⟨s8 + 1, 0, none⟩)], .func (.func 72) #[.pointer (some ⟨xb, 0, none⟩)] #[], .func (.func 73) #[.pointer (some ⟨xb, 0, none⟩)] #[], .func (.func 79) #[] #[.pointer (some ⟨s11, 0, none⟩), .pointer (some ⟨s11 + 1, 0, none⟩)], .func (.func 74) #[.pointer (some ⟨xb, 0, none⟩)] #[], .func (.func 79) #[] #[.pointer (some ⟨s13, 0, none⟩), .pointer (some ⟨s13 + 1, 0, none⟩)]] 88
  go_wp2_with fail
  obtain ⟨V, HV, eV⟩ := H3.name
  rw [← eV.out]
  rw [List.append_assoc] at HV
  generalize hbx : dtBoxes w0.heap.size rb xb s2 s4 s6 s7 s8 s11 s13 ++ _ = BX at HV
  have HBX := Lib.hid hbx
  clear hbx
  clear H2 H3 eV xd xs fq fx
  have il := (List.getElem?_eq_some_iff.1 hi2).1
  have jl2 := (List.getElem?_eq_some_iff.1 hj2).1
  refine (settle_h HV i j q (get_app hi2 _) (get_app hq2 _) IJ.out h cy t dr (get_app hj2 _) t0 t1 c0 (by omega)).mono ?_
  rintro e w2 ⟨rfl, H5⟩
  rw [set_front _ hi2, set_front _ (set_get2 hj2 _ IJ.out)] at H5
  have H6 := H5.front
  rw [← HCS.out, List.set_comm _ _ (Ne.symm IJ.out), List.set_set] at H6
  clear H5
  obtain ⟨x0, x1, x2, x3, x4, x5, x6, x7, x8, fx⟩ := row9 (H6.get j (lset_same2 (set_get2 hj _ IJ.out) _))
  go_wp2_with fail
  go_end0
  refine ⟨rfl, ?_⟩
  rw [show (dtStep c l ⟨3, cy, t, ek, ea, eb⟩ dr).2 = ⟨(dtSaid c l 3 cy t (3 * cy - 1)).doing, cy, (dtSaid c l 3 cy t (3 * cy - 1)).turn, 0, 0, 0⟩ from said_eta c l 3 cy t (3 * cy - 1)]
  exact H6.more (by rw [List.length_set]; exact JL.out) 1 (.int .i64 (dtSaid c l 3 cy t (3 * cy - 1)).doing)

set_option maxRecDepth 100000 in
set_option maxHeartbeats 4000000 in
theorem dtStep4 (cy t ek ea eb dr : Int) (hj : cs[j]? = some (dtC _ xb mb ⟨4, cy, t, ek, ea, eb⟩)) (c0 : 1 ≤ cy) (c1 : cy < 999999) :
    Calls Try.prog 16 #[.pointer (some ⟨xb, 0, none⟩), .pointer (some ⟨sb, 0, none⟩), .int .i64 dr] w fun e w' => e = .returned (.tuple #[]) ∧
      Has w0 w' ((cs.set i (storeC _ sb g (dtStep c l ⟨4, cy, t, ek, ea, eb⟩ dr).1 (dtCount ⟨4, cy, t, ek, ea, eb⟩ dr n))).set j (dtC _ xb mb (dtStep c l ⟨4, cy, t, ek, ea, eb⟩ dr).2)) := by
  obtain ⟨x0, x1, x2, x3, x4, x5, x6, x7, x8, fx⟩ := row9 (H.get j hj)
  have IJ := Lib.hid hij
  clear hij
  dsimp only at x1 x2 x3 x4 x5 x6 x7 x8
  go_enter Try.func16, Try.ntmps16
  have jl := (List.getElem?_eq_some_iff.1 hj).1
  have H1 : Has w0 _ (cs.set j (dtC _ xb mb ⟨4, cy, t, 0, 0, 0⟩)) := ((((H.blkSet j hj 4 (.int .i64 0)).more jl 5 (.int .i64 0)).more jl 6 (.int .i64 0)).more jl 7 (.int .i64 0)).more jl 8 (.int .i64 0)
  have JL := Lib.hid jl
  clear jl
  go_wp2_with fail
  obtain ⟨W, HW, eW⟩ := H1.name
  rw [← eW.out]
  clear H1 eW x0 x1 x2 x3 x4 x5 x6 x7 x8 fx
  have QJ : j ≠ q := by rintro rfl; rw [hj] at hq; exact absurd (congrArg (fun o => o.map Chunk.ro) hq) (by simp [dtC, blkC, mapC])
  have hj2 := lset_same2 hj (dtC w0.heap.size xb mb ⟨4, cy, t, 0, 0, 0⟩)
  have hi2 := set_get2 hi (dtC w0.heap.size xb mb ⟨4, cy, t, 0, 0, 0⟩) (Ne.symm IJ.out)
  have hq2 := set_get2 hq (dtC w0.heap.size xb mb ⟨4, cy, t, 0, 0, 0⟩) QJ
  clear QJ
  generalize hcs : cs.set j (dtC w0.heap.size xb mb ⟨4, cy, t, 0, 0, 0⟩) = ds at HW hi2 hj2 hq2
  have HCS := Lib.hid hcs
  clear hcs
  refine (does_h HW xb).mono ?_
  rintro e w1 ⟨rb, s2, s4, s6, s7, s8, s11, s13, rfl, H2⟩
  unfold dtFns
  obtain ⟨x0, x1, x2, x3, x4, x5, x6, x7, x8, fx⟩ := row9 (H2.get j (get_app hj2 _))
  have xd : w1.cell? ⟨xb, 1, none⟩ = some (.int .i64 4) := x1
  have xs : xb < w1.heap.size := (H2.lt j _ (get_app hj2 _) xb (by simp [dtC, blkC])).1
  have fq := fx 0
  clear x0 x1 x2 x3 x4 x5 x6 x7 x8
  have H3 := H2.blkNew #[.func (.func 66) #[.pointer (some ⟨xb, 0, none⟩)] #[], .func (.func 67) #[.pointer (some ⟨xb, 0, none⟩)] #[], .func (.func 79) #[] #[.pointer (some ⟨s2, 0, none⟩), .pointer (some ⟨s2 + 1, 0, none⟩)], .func (.func 69) #[.pointer (some ⟨xb, 0, none⟩)] #[], .func (.func 79) #[] #[.pointer (some ⟨s4, 0, none⟩), .pointer (some ⟨s4 + 1, 0, none⟩)], .func (.func 70) #[.pointer (some ⟨xb, 0, none⟩)] #[], .func (.func 79) #[] #[.pointer (some ⟨s6, 0, none⟩), .pointer (some ⟨s6 + 1, 0, none⟩)], .func (.func 80) #[] #[.pointer (some ⟨s7, 0, none⟩), .pointer (some ⟨s7 + 1, 0, none⟩)], .func (.func 80) #[] #[.pointer (some ⟨s8, 0, none⟩), .pointer (some ⟨s8 + 1, 0, none⟩)], .func (.func 72) #[.pointer (some ⟨xb, 0, none⟩)] #[], .func (.func 73) #[.pointer (some ⟨xb, 0, none⟩)] #[], .func (.func 79) #[] #[.pointer (some ⟨s11, 0, none⟩), .pointer (some ⟨s11 + 1, 0, none⟩)], .func (.func 74) #[.pointer (some ⟨xb, 0, none⟩)] #[], .func (.func 79) #[] #[.pointer (some ⟨s13, 0, none⟩), .pointer (some ⟨s13 + 1, 0, none⟩)]] 88
  go_wp2_with fail
  obtain ⟨V, HV, eV⟩ := H3.name
  rw [← eV.out]
  rw [List.append_assoc] at HV
  generalize hbx : dtBoxes w0.heap.size rb xb s2 s4 s6 s7 s8 s11 s13 ++ _ = BX at HV
  have HBX := Lib.hid hbx
  clear hbx
  clear H2 H3 eV xd xs fq fx
  have il := (List.getElem?_eq_some_iff.1 hi2).1
  have jl2 := (List.getElem?_eq_some_iff.1 hj2).1
  refine (tell1_h HV i j q (get_app hi2 _) (get_app hq2 _) IJ.out h (ds.length + 3) (ds.length + 4) 4 cy t 3 0 0 0 dr (get_app hj2 _) (by rw [get_at, ← HBX.out]; rfl) (by rw [get_at, ← HBX.out]; rfl) (by omega) (by omega) (by omega) (by omega) (by omega) (by omega) (by decide)).mono ?_
  rintro e w2 ⟨rfl, H5⟩
  rw [set_front _ hi2, set_front _ (set_get2 hj2 _ IJ.out)] at H5
  have H6 := H5.front
  rw [← HCS.out, List.set_comm _ _ (Ne.symm IJ.out), List.set_set] at H6
  clear H5
  obtain ⟨x0, x1, x2, x3, x4, x5, x6, x7, x8, fx⟩ := row9 (H6.get j (lset_same2 (set_get2 hj _ IJ.out) _))
  go_wp2_with fail
  go_end0
  refine ⟨rfl, ?_⟩
  exact H6.more (by rw [List.length_set]; exact JL.out) 1 (.int .i64 ((4 + 1) % 14 : Nat))

set_option maxRecDepth 100000 in
set_option maxHeartbeats 4000000 in
theorem dtStep5 (cy t ek ea eb dr : Int) (hj : cs[j]? = some (dtC _ xb mb ⟨5, cy, t, ek, ea, eb⟩)) (c0 : 1 ≤ cy) (c1 : cy < 999999) (t0 : 0 ≤ t) (t1 : t ≤ 4) :
    Calls Try.prog 16 #[.pointer (some ⟨xb, 0, none⟩), .pointer (some ⟨sb, 0, none⟩), .int .i64 dr] w fun e w' => e = .returned (.tuple #[]) ∧
      Has w0 w' ((cs.set i (storeC _ sb g (dtStep c l ⟨5, cy, t, ek, ea, eb⟩ dr).1 (dtCount ⟨5, cy, t, ek, ea, eb⟩ dr n))).set j (dtC _ xb mb (dtStep c l ⟨5, cy, t, ek, ea, eb⟩ dr).2)) := by
  obtain ⟨x0, x1, x2, x3, x4, x5, x6, x7, x8, fx⟩ := row9 (H.get j hj)
  have IJ := Lib.hid hij
  clear hij
  dsimp only at x1 x2 x3 x4 x5 x6 x7 x8
  go_enter Try.func16, Try.ntmps16
  have jl := (List.getElem?_eq_some_iff.1 hj).1
  have H1 : Has w0 _ (cs.set j (dtC _ xb mb ⟨5, cy, t, 0, 0, 0⟩)) := ((((H.blkSet j hj 4 (.int .i64 0)).more jl 5 (.int .i64 0)).more jl 6 (.int .i64 0)).more jl 7 (.int .i64 0)).more jl 8 (.int .i64 0)
  have JL := Lib.hid jl
  clear jl
  go_wp2_with fail
  obtain ⟨W, HW, eW⟩ := H1.name
  rw [← eW.out]
  clear H1 eW x0 x1 x2 x3 x4 x5 x6 x7 x8 fx
  have QJ : j ≠ q := by rintro rfl; rw [hj] at hq; exact absurd (congrArg (fun o => o.map Chunk.ro) hq) (by simp [dtC, blkC, mapC])
  have hj2 := lset_same2 hj (dtC w0.heap.size xb mb ⟨5, cy, t, 0, 0, 0⟩)
  have hi2 := set_get2 hi (dtC w0.heap.size xb mb ⟨5, cy, t, 0, 0, 0⟩) (Ne.symm IJ.out)
  have hq2 := set_get2 hq (dtC w0.heap.size xb mb ⟨5, cy, t, 0, 0, 0⟩) QJ
  clear QJ
  generalize hcs : cs.set j (dtC w0.heap.size xb mb ⟨5, cy, t, 0, 0, 0⟩) = ds at HW hi2 hj2 hq2
  have HCS := Lib.hid hcs
  clear hcs
  refine (does_h HW xb).mono ?_
  rintro e w1 ⟨rb, s2, s4, s6, s7, s8, s11, s13, rfl, H2⟩
  unfold dtFns
  obtain ⟨x0, x1, x2, x3, x4, x5, x6, x7, x8, fx⟩ := row9 (H2.get j (get_app hj2 _))
  have xd : w1.cell? ⟨xb, 1, none⟩ = some (.int .i64 5) := x1
  have xs : xb < w1.heap.size := (H2.lt j _ (get_app hj2 _) xb (by simp [dtC, blkC])).1
  have fq := fx 0
  clear x0 x1 x2 x3 x4 x5 x6 x7 x8
  have H3 := H2.blkNew #[.func (.func 66) #[.pointer (some ⟨xb, 0, none⟩)] #[], .func (.func 67) #[.pointer (some ⟨xb, 0, none⟩)] #[], .func (.func 79) #[] #[.pointer (some ⟨s2, 0, none⟩), .pointer (some ⟨s2 + 1, 0, none⟩)], .func (.func 69) #[.pointer (some ⟨xb, 0, none⟩)] #[], .func (.func 79) #[] #[.pointer (some ⟨s4, 0, none⟩), .pointer (some ⟨s4 + 1, 0, none⟩)], .func (.func 70) #[.pointer (some ⟨xb, 0, none⟩)] #[], .func (.func 79) #[] #[.pointer (some ⟨s6, 0, none⟩), .pointer (some ⟨s6 + 1, 0, none⟩)], .func (.func 80) #[] #[.pointer (some ⟨s7, 0, none⟩), .pointer (some ⟨s7 + 1, 0, none⟩)], .func (.func 80) #[] #[.pointer (some ⟨s8, 0, none⟩), .pointer (some ⟨s8 + 1, 0, none⟩)], .func (.func 72) #[.pointer (some ⟨xb, 0, none⟩)] #[], .func (.func 73) #[.pointer (some ⟨xb, 0, none⟩)] #[], .func (.func 79) #[] #[.pointer (some ⟨s11, 0, none⟩), .pointer (some ⟨s11 + 1, 0, none⟩)], .func (.func 74) #[.pointer (some ⟨xb, 0, none⟩)] #[], .func (.func 79) #[] #[.pointer (some ⟨s13, 0, none⟩), .pointer (some ⟨s13 + 1, 0, none⟩)]] 88
  go_wp2_with fail
  obtain ⟨V, HV, eV⟩ := H3.name
  rw [← eV.out]
  rw [List.append_assoc] at HV
  generalize hbx : dtBoxes w0.heap.size rb xb s2 s4 s6 s7 s8 s11 s13 ++ _ = BX at HV
  have HBX := Lib.hid hbx
  clear hbx
  clear H2 H3 eV xd xs fq fx
  have il := (List.getElem?_eq_some_iff.1 hi2).1
  have jl2 := (List.getElem?_eq_some_iff.1 hj2).1
  refine (root_h HV i j q (get_app hi2 _) (get_app hq2 _) IJ.out h cy t dr (get_app hj2 _) t0 t1 c0 (by omega)).mono ?_
  rintro e w2 ⟨rfl, H5⟩
  rw [set_front _ hi2, set_front _ (set_get2 hj2 _ IJ.out)] at H5
  have H6 := H5.front
  rw [← HCS.out, List.set_comm _ _ (Ne.symm IJ.out), List.set_set] at H6
  clear H5
  obtain ⟨x0, x1, x2, x3, x4, x5, x6, x7, x8, fx⟩ := row9 (H6.get j (lset_same2 (set_get2 hj _ IJ.out) _))
  go_wp2_with fail
  go_end0
  refine ⟨rfl, ?_⟩
  rw [show (dtStep c l ⟨5, cy, t, ek, ea, eb⟩ dr).2 = ⟨(dtSaid c l 5 cy t (3 * cy)).doing, cy, (dtSaid c l 5 cy t (3 * cy)).turn, 0, 0, 0⟩ from said_eta c l 5 cy t (3 * cy)]
  exact H6.more (by rw [List.length_set]; exact JL.out) 1 (.int .i64 (dtSaid c l 5 cy t (3 * cy)).doing)

set_option maxRecDepth 100000 in
set_option maxHeartbeats 4000000 in
theorem dtStep6 (cy t ek ea eb dr : Int) (hj : cs[j]? = some (dtC _ xb mb ⟨6, cy, t, ek, ea, eb⟩)) (c0 : 1 ≤ cy) (c1 : cy < 999999) :
    Calls Try.prog 16 #[.pointer (some ⟨xb, 0, none⟩), .pointer (some ⟨sb, 0, none⟩), .int .i64 dr] w fun e w' => e = .returned (.tuple #[]) ∧
      Has w0 w' ((cs.set i (storeC _ sb g (dtStep c l ⟨6, cy, t, ek, ea, eb⟩ dr).1 (dtCount ⟨6, cy, t, ek, ea, eb⟩ dr n))).set j (dtC _ xb mb (dtStep c l ⟨6, cy, t, ek, ea, eb⟩ dr).2)) := by
  obtain ⟨x0, x1, x2, x3, x4, x5, x6, x7, x8, fx⟩ := row9 (H.get j hj)
  have IJ := Lib.hid hij
  clear hij
  dsimp only at x1 x2 x3 x4 x5 x6 x7 x8
  go_enter Try.func16, Try.ntmps16
  have jl := (List.getElem?_eq_some_iff.1 hj).1
  have H1 : Has w0 _ (cs.set j (dtC _ xb mb ⟨6, cy, t, 0, 0, 0⟩)) := ((((H.blkSet j hj 4 (.int .i64 0)).more jl 5 (.int .i64 0)).more jl 6 (.int .i64 0)).more jl 7 (.int .i64 0)).more jl 8 (.int .i64 0)
  have JL := Lib.hid jl
  clear jl
  go_wp2_with fail
  obtain ⟨W, HW, eW⟩ := H1.name
  rw [← eW.out]
  clear H1 eW x0 x1 x2 x3 x4 x5 x6 x7 x8 fx
  have QJ : j ≠ q := by rintro rfl; rw [hj] at hq; exact absurd (congrArg (fun o => o.map Chunk.ro) hq) (by simp [dtC, blkC, mapC])
  have hj2 := lset_same2 hj (dtC w0.heap.size xb mb ⟨6, cy, t, 0, 0, 0⟩)
  have hi2 := set_get2 hi (dtC w0.heap.size xb mb ⟨6, cy, t, 0, 0, 0⟩) (Ne.symm IJ.out)
  have hq2 := set_get2 hq (dtC w0.heap.size xb mb ⟨6, cy, t, 0, 0, 0⟩) QJ
  clear QJ
  generalize hcs : cs.set j (dtC w0.heap.size xb mb ⟨6, cy, t, 0, 0, 0⟩) = ds at HW hi2 hj2 hq2
  have HCS := Lib.hid hcs
  clear hcs
  refine (does_h HW xb).mono ?_
  rintro e w1 ⟨rb, s2, s4, s6, s7, s8, s11, s13, rfl, H2⟩
  unfold dtFns
  obtain ⟨x0, x1, x2, x3, x4, x5, x6, x7, x8, fx⟩ := row9 (H2.get j (get_app hj2 _))
  have xd : w1.cell? ⟨xb, 1, none⟩ = some (.int .i64 6) := x1
  have xs : xb < w1.heap.size := (H2.lt j _ (get_app hj2 _) xb (by simp [dtC, blkC])).1
  have fq := fx 0
  clear x0 x1 x2 x3 x4 x5 x6 x7 x8
  have H3 := H2.blkNew #[.func (.func 66) #[.pointer (some ⟨xb, 0, none⟩)] #[], .func (.func 67) #[.pointer (some ⟨xb, 0, none⟩)] #[], .func (.func 79) #[] #[.pointer (some ⟨s2, 0, none⟩), .pointer (some ⟨s2 + 1, 0, none⟩)], .func (.func 69) #[.pointer (some ⟨xb, 0, none⟩)] #[], .func (.func 79) #[] #[.pointer (some ⟨s4, 0, none⟩), .pointer (some ⟨s4 + 1, 0, none⟩)], .func (.func 70) #[.pointer (some ⟨xb, 0, none⟩)] #[], .func (.func 79) #[] #[.pointer (some ⟨s6, 0, none⟩), .pointer (some ⟨s6 + 1, 0, none⟩)], .func (.func 80) #[] #[.pointer (some ⟨s7, 0, none⟩), .pointer (some ⟨s7 + 1, 0, none⟩)], .func (.func 80) #[] #[.pointer (some ⟨s8, 0, none⟩), .pointer (some ⟨s8 + 1, 0, none⟩)], .func (.func 72) #[.pointer (some ⟨xb, 0, none⟩)] #[], .func (.func 73) #[.pointer (some ⟨xb, 0, none⟩)] #[], .func (.func 79) #[] #[.pointer (some ⟨s11, 0, none⟩), .pointer (some ⟨s11 + 1, 0, none⟩)], .func (.func 74) #[.pointer (some ⟨xb, 0, none⟩)] #[], .func (.func 79) #[] #[.pointer (some ⟨s13, 0, none⟩), .pointer (some ⟨s13 + 1, 0, none⟩)]] 88
  go_wp2_with fail
  obtain ⟨V, HV, eV⟩ := H3.name
  rw [← eV.out]
  rw [List.append_assoc] at HV
  generalize hbx : dtBoxes w0.heap.size rb xb s2 s4 s6 s7 s8 s11 s13 ++ _ = BX at HV
  have HBX := Lib.hid hbx
  clear hbx
  clear H2 H3 eV xd xs fq fx
  have il := (List.getElem?_eq_some_iff.1 hi2).1
  have jl2 := (List.getElem?_eq_some_iff.1 hj2).1
  refine (tell1_h HV i j q (get_app hi2 _) (get_app hq2 _) IJ.out h (ds.length + 5) (ds.length + 6) 6 cy t 4 0 0 0 dr (get_app hj2 _) (by rw [get_at, ← HBX.out]; rfl) (by rw [get_at, ← HBX.out]; rfl) (by omega) (by omega) (by omega) (by omega) (by omega) (by omega) (by decide)).mono ?_
  rintro e w2 ⟨rfl, H5⟩
  rw [set_front _ hi2, set_front _ (set_get2 hj2 _ IJ.out)] at H5
  have H6 := H5.front
  rw [← HCS.out, List.set_comm _ _ (Ne.symm IJ.out), List.set_set] at H6
  clear H5
  obtain ⟨x0, x1, x2, x3, x4, x5, x6, x7, x8, fx⟩ := row9 (H6.get j (lset_same2 (set_get2 hj _ IJ.out) _))
  go_wp2_with fail
  go_end0
  refine ⟨rfl, ?_⟩
  exact H6.more (by rw [List.length_set]; exact JL.out) 1 (.int .i64 ((6 + 1) % 14 : Nat))

set_option maxRecDepth 100000 in
set_option maxHeartbeats 4000000 in
theorem dtStep7 (cy t ek ea eb dr : Int) (hj : cs[j]? = some (dtC _ xb mb ⟨7, cy, t, ek, ea, eb⟩)) (c0 : 1 ≤ cy) (c1 : cy < 999999) :
    Calls Try.prog 16 #[.pointer (some ⟨xb, 0, none⟩), .pointer (some ⟨sb, 0, none⟩), .int .i64 dr] w fun e w' => e = .returned (.tuple #[]) ∧
      Has w0 w' ((cs.set i (storeC _ sb g (dtStep c l ⟨7, cy, t, ek, ea, eb⟩ dr).1 (dtCount ⟨7, cy, t, ek, ea, eb⟩ dr n))).set j (dtC _ xb mb (dtStep c l ⟨7, cy, t, ek, ea, eb⟩ dr).2)) := by
  obtain ⟨x0, x1, x2, x3, x4, x5, x6, x7, x8, fx⟩ := row9 (H.get j hj)
  have IJ := Lib.hid hij
  clear hij
  dsimp only at x1 x2 x3 x4 x5 x6 x7 x8
  go_enter Try.func16, Try.ntmps16
  have jl := (List.getElem?_eq_some_iff.1 hj).1
  have H1 : Has w0 _ (cs.set j (dtC _ xb mb ⟨7, cy, t, 0, 0, 0⟩)) := ((((H.blkSet j hj 4 (.int .i64 0)).more jl 5 (.int .i64 0)).more jl 6 (.int .i64 0)).more jl 7 (.int .i64 0)).more jl 8 (.int .i64 0)
  have JL := Lib.hid jl
  clear jl
  go_wp2_with fail
  obtain ⟨W, HW, eW⟩ := H1.name
  rw [← eW.out]
  clear H1 eW x0 x1 x2 x3 x4 x5 x6 x7 x8 fx
  have QJ : j ≠ q := by rintro rfl; rw [hj] at hq; exact absurd (congrArg (fun o => o.map Chunk.ro) hq) (by simp [dtC, blkC, mapC])
  have hj2 := lset_same2 hj (dtC w0.heap.size xb mb ⟨7, cy, t, 0, 0, 0⟩)
  have hi2 := set_get2 hi (dtC w0.heap.size xb mb ⟨7, cy, t, 0, 0, 0⟩) (Ne.symm IJ.out)
  have hq2 := set_get2 hq (dtC w0.heap.size xb mb ⟨7, cy, t, 0, 0, 0⟩) QJ
  clear QJ
  generalize hcs : cs.set j (dtC w0.heap.size xb mb ⟨7, cy, t, 0, 0, 0⟩) = ds at HW hi2 hj2 hq2
  have HCS := Lib.hid hcs
  clear hcs
  refine (does_h HW xb).mono ?_
  rintro e w1 ⟨rb, s2, s4, s6, s7, s8, s11, s13, rfl, H2⟩
  unfold dtFns
  obtain ⟨x0, x1, x2, x3, x4, x5, x6, x7, x8, fx⟩ := row9 (H2.get j (get_app hj2 _))
  have xd : w1.cell? ⟨xb, 1, none⟩ = some (.int .i64 7) := x1
  have xs : xb < w1.heap.size := (H2.lt j _ (get_app hj2 _) xb (by simp [dtC, blkC])).1
  have fq := fx 0
  clear x0 x1 x2 x3 x4 x5 x6 x7 x8
  have H3 := H2.blkNew #[.func (.func 66) #[.pointer (some ⟨xb, 0, none⟩)] #[], .func (.func 67) #[.pointer (some ⟨xb, 0, none⟩)] #[], .func (.func 79) #[] #[.pointer (some ⟨s2, 0, none⟩), .pointer (some ⟨s2 + 1, 0, none⟩)], .func (.func 69) #[.pointer (some ⟨xb, 0, none⟩)] #[], .func (.func 79) #[] #[.pointer (some ⟨s4, 0, none⟩), .pointer (some ⟨s4 + 1, 0, none⟩)], .func (.func 70) #[.pointer (some ⟨xb, 0, none⟩)] #[], .func (.func 79) #[] #[.pointer (some ⟨s6, 0, none⟩), .pointer (some ⟨s6 + 1, 0, none⟩)], .func (.func 80) #[] #[.pointer (some ⟨s7, 0, none⟩), .pointer (some ⟨s7 + 1, 0, none⟩)], .func (.func 80) #[] #[.pointer (some ⟨s8, 0, none⟩), .pointer (some ⟨s8 + 1, 0, none⟩)], .func (.func 72) #[.pointer (some ⟨xb, 0, none⟩)] #[], .func (.func 73) #[.pointer (some ⟨xb, 0, none⟩)] #[], .func (.func 79) #[] #[.pointer (some ⟨s11, 0, none⟩), .pointer (some ⟨s11 + 1, 0, none⟩)], .func (.func 74) #[.pointer (some ⟨xb, 0, none⟩)] #[], .func (.func 79) #[] #[.pointer (some ⟨s13, 0, none⟩), .pointer (some ⟨s13 + 1, 0, none⟩)]] 88
  go_wp2_with fail
  obtain ⟨V, HV, eV⟩ := H3.name
  rw [← eV.out]
  rw [List.append_assoc] at HV
  generalize hbx : dtBoxes w0.heap.size rb xb s2 s4 s6 s7 s8 s11 s13 ++ _ = BX at HV
  have HBX := Lib.hid hbx
  clear hbx
  clear H2 H3 eV xd xs fq fx
  have il := (List.getElem?_eq_some_iff.1 hi2).1
  have jl2 := (List.getElem?_eq_some_iff.1 hj2).1
  refine (count1_h HV i j q (get_app hi2 _) (get_app hq2 _) IJ.out h (ds.length + 7) (ds.length + 8) ⟨7, cy, t, 0, 0, 0⟩ 8 dr (get_app hj2 _) (by rw [get_at, ← HBX.out]; rfl) (by rw [get_at, ← HBX.out]; rfl) (by omega) (by omega)).mono ?_
  rintro e w2 ⟨rfl, H5⟩
  rw [set_front _ hi2, set_front _ (set_get2 hj2 _ IJ.out)] at H5
  have H6 := H5.front
  rw [← HCS.out, List.set_comm _ _ (Ne.symm IJ.out), List.set_set] at H6
  clear H5
  obtain ⟨x0, x1, x2, x3, x4, x5, x6, x7, x8, fx⟩ := row9 (H6.get j (lset_same2 (set_get2 hj _ IJ.out) _))
  go_wp2_with fail
  go_end0
  refine ⟨rfl, ?_⟩
  exact H6.more (by rw [List.length_set]; exact JL.out) 1 (.int .i64 (bif mld l 1 != 0 then 7 else 8 : Nat))

set_option maxRecDepth 100000 in
set_option maxHeartbeats 4000000 in
theorem dtStep8 (cy t ek ea eb dr : Int) (hj : cs[j]? = some (dtC _ xb mb ⟨8, cy, t, ek, ea, eb⟩)) (c0 : 1 ≤ cy) (c1 : cy < 999999) :
    Calls Try.prog 16 #[.pointer (some ⟨xb, 0, none⟩), .pointer (some ⟨sb, 0, none⟩), .int .i64 dr] w fun e w' => e = .returned (.tuple #[]) ∧
      Has w0 w' ((cs.set i (storeC _ sb g (dtStep c l ⟨8, cy, t, ek, ea, eb⟩ dr).1 (dtCount ⟨8, cy, t, ek, ea, eb⟩ dr n))).set j (dtC _ xb mb (dtStep c l ⟨8, cy, t, ek, ea, eb⟩ dr).2)) := by
  obtain ⟨x0, x1, x2, x3, x4, x5, x6, x7, x8, fx⟩ := row9 (H.get j hj)
  have IJ := Lib.hid hij
  clear hij
  dsimp only at x1 x2 x3 x4 x5 x6 x7 x8
  go_enter Try.func16, Try.ntmps16
  have jl := (List.getElem?_eq_some_iff.1 hj).1
  have H1 : Has w0 _ (cs.set j (dtC _ xb mb ⟨8, cy, t, 0, 0, 0⟩)) := ((((H.blkSet j hj 4 (.int .i64 0)).more jl 5 (.int .i64 0)).more jl 6 (.int .i64 0)).more jl 7 (.int .i64 0)).more jl 8 (.int .i64 0)
  have JL := Lib.hid jl
  clear jl
  go_wp2_with fail
  obtain ⟨W, HW, eW⟩ := H1.name
  rw [← eW.out]
  clear H1 eW x0 x1 x2 x3 x4 x5 x6 x7 x8 fx
  have QJ : j ≠ q := by rintro rfl; rw [hj] at hq; exact absurd (congrArg (fun o => o.map Chunk.ro) hq) (by simp [dtC, blkC, mapC])
  have hj2 := lset_same2 hj (dtC w0.heap.size xb mb ⟨8, cy, t, 0, 0, 0⟩)
  have hi2 := set_get2 hi (dtC w0.heap.size xb mb ⟨8, cy, t, 0, 0, 0⟩) (Ne.symm IJ.out)
  have hq2 := set_get2 hq (dtC w0.heap.size xb mb ⟨8, cy, t, 0, 0, 0⟩) QJ
  clear QJ
  generalize hcs : cs.set j (dtC w0.heap.size xb mb ⟨8, cy, t, 0, 0, 0⟩) = ds at HW hi2 hj2 hq2
  have HCS := Lib.hid hcs
  clear hcs
  refine (does_h HW xb).mono ?_
  rintro e w1 ⟨rb, s2, s4, s6, s7, s8, s11, s13, rfl, H2⟩
  unfold dtFns
  obtain ⟨x0, x1, x2, x3, x4, x5, x6, x7, x8, fx⟩ := row9 (H2.get j (get_app hj2 _))
  have xd : w1.cell? ⟨xb, 1, none⟩ = some (.int .i64 8) := x1
  have xs : xb < w1.heap.size := (H2.lt j _ (get_app hj2 _) xb (by simp [dtC, blkC])).1
  have fq := fx 0
  clear x0 x1 x2 x3 x4 x5 x6 x7 x8
  have H3 := H2.blkNew #[.func (.func 66) #[.pointer (some ⟨xb, 0, none⟩)] #[], .func (.func 67) #[.pointer (some ⟨xb, 0, none⟩)] #[], .func (.func 79) #[] #[.pointer (some ⟨s2, 0, none⟩), .pointer (some ⟨s2 + 1, 0, none⟩)], .func (.func 69) #[.pointer (some ⟨xb, 0, none⟩)] #[], .func (.func 79) #[] #[.pointer (some ⟨s4, 0, none⟩), .pointer (some ⟨s4 + 1, 0, none⟩)], .func (.func 70) #[.pointer (some ⟨xb, 0, none⟩)] #[], .func (.func 79) #[] #[.pointer (some ⟨s6, 0, none⟩), .pointer (some ⟨s6 + 1, 0, none⟩)], .func (.func 80) #[] #[.pointer (some ⟨s7, 0, none⟩), .pointer (some ⟨s7 + 1, 0, none⟩)], .func (.func 80) #[] #[.pointer (some ⟨s8, 0, none⟩), .pointer (some ⟨s8 + 1, 0, none⟩)], .func (.func 72) #[.pointer (some ⟨xb, 0, none⟩)] #[], .func (.func 73) #[.pointer (some ⟨xb, 0, none⟩)] #[], .func (.func 79) #[] #[.pointer (some ⟨s11, 0, none⟩), .pointer (some ⟨s11 + 1, 0, none⟩)], .func (.func 74) #[.pointer (some ⟨xb, 0, none⟩)] #[], .func (.func 79) #[] #[.pointer (some ⟨s13, 0, none⟩), .pointer (some ⟨s13 + 1, 0, none⟩)]] 88
  go_wp2_with fail
  obtain ⟨V, HV, eV⟩ := H3.name
  rw [← eV.out]
  rw [List.append_assoc] at HV
  generalize hbx : dtBoxes w0.heap.size rb xb s2 s4 s6 s7 s8 s11 s13 ++ _ = BX at HV
  have HBX := Lib.hid hbx
  clear hbx
  clear H2 H3 eV xd xs fq fx
  have il := (List.getElem?_eq_some_iff.1 hi2).1
  have jl2 := (List.getElem?_eq_some_iff.1 hj2).1
  refine (count1_h HV i j q (get_app hi2 _) (get_app hq2 _) IJ.out h (ds.length + 9) (ds.length + 10) ⟨8, cy, t, 0, 0, 0⟩ 9 dr (get_app hj2 _) (by rw [get_at, ← HBX.out]; rfl) (by rw [get_at, ← HBX.out]; rfl) (by omega) (by omega)).mono ?_
  rintro e w2 ⟨rfl, H5⟩
  rw [set_front _ hi2, set_front _ (set_get2 hj2 _ IJ.out)] at H5
  have H6 := H5.front
  rw [← HCS.out, List.set_comm _ _ (Ne.symm IJ.out), List.set_set] at H6
  clear H5
  obtain ⟨x0, x1, x2, x3, x4, x5, x6, x7, x8, fx⟩ := row9 (H6.get j (lset_same2 (set_get2 hj _ IJ.out) _))
  go_wp2_with fail
  go_end0
  refine ⟨rfl, ?_⟩
  exact H6.more (by rw [List.length_set]; exact JL.out) 1 (.int .i64 (bif mld l 1 != 0 then 7 else 9 : Nat))

set_option maxRecDepth 100000 in
set_option maxHeartbeats 4000000 in
theorem dtStep9 (cy t ek ea eb dr : Int) (hj : cs[j]? = some (dtC _ xb mb ⟨9, cy, t, ek, ea, eb⟩)) (c0 : 1 ≤ cy) (c1 : cy < 999999) :
    Calls Try.prog 16 #[.pointer (some ⟨xb, 0, none⟩), .pointer (some ⟨sb, 0, none⟩), .int .i64 dr] w fun e w' => e = .returned (.tuple #[]) ∧
      Has w0 w' ((cs.set i (storeC _ sb g (dtStep c l ⟨9, cy, t, ek, ea, eb⟩ dr).1 (dtCount ⟨9, cy, t, ek, ea, eb⟩ dr n))).set j (dtC _ xb mb (dtStep c l ⟨9, cy, t, ek, ea, eb⟩ dr).2)) := by
  obtain ⟨x0, x1, x2, x3, x4, x5, x6, x7, x8, fx⟩ := row9 (H.get j hj)
  have IJ := Lib.hid hij
  clear hij
  dsimp only at x1 x2 x3 x4 x5 x6 x7 x8
  go_enter Try.func16, Try.ntmps16
  have jl := (List.getElem?_eq_some_iff.1 hj).1
  have H1 : Has w0 _ (cs.set j (dtC _ xb mb ⟨9, cy, t, 0, 0, 0⟩)) := ((((H.blkSet j hj 4 (.int .i64 0)).more jl 5 (.int .i64 0)).more jl 6 (.int .i64 0)).more jl 7 (.int .i64 0)).more jl 8 (.int .i64 0)
  have JL := Lib.hid jl
  clear jl
  go_wp2_with fail
  obtain ⟨W, HW, eW⟩ := H1.name
  rw [← eW.out]
  clear H1 eW x0 x1 x2 x3 x4 x5 x6 x7 x8 fx
  have QJ : j ≠ q := by rintro rfl; rw [hj] at hq; exact absurd (congrArg (fun o => o.map Chunk.ro) hq) (by simp [dtC, blkC, mapC])
  have hj2 := lset_same2 hj (dtC w0.heap.size xb mb ⟨9, cy, t, 0, 0, 0⟩)
  have hi2 := set_get2 hi (dtC w0.heap.size xb mb ⟨9, cy, t, 0, 0, 0⟩) (Ne.symm IJ.out)
  have hq2 := set_get2 hq (dtC w0.heap.size xb mb ⟨9, cy, t, 0, 0, 0⟩) QJ
  clear QJ
  generalize hcs : cs.set j (dtC w0.heap.size xb mb ⟨9, cy, t, 0, 0, 0⟩) = ds at HW hi2 hj2 hq2
  have HCS := Lib.hid hcs
  clear hcs
  refine (does_h HW xb).mono ?_
  rintro e w1 ⟨rb, s2, s4, s6, s7, s8, s11, s13, rfl, H2⟩
  unfold dtFns
  obtain ⟨x0, x1, x2, x3, x4, x5, x6, x7, x8, fx⟩ := row9 (H2.get j (get_app hj2 _))
  have xd : w1.cell? ⟨xb, 1, none⟩ = some (.int .i64 9) := x1
  have xs : xb < w1.heap.size := (H2.lt j _ (get_app hj2 _) xb (by simp [dtC, blkC])).1
  have fq := fx 0
  clear x0 x1 x2 x3 x4 x5 x6 x7 x8
  have H3 := H2.blkNew #[.func (.func 66) #[.pointer (some ⟨xb, 0, none⟩)] #[], .func (.func 67) #[.pointer (some ⟨xb, 0, none⟩)] #[], .func (.func 79) #[] #[.pointer (some ⟨s2, 0, none⟩), .pointer (some ⟨s2 + 1, 0, none⟩)], .func (.func 69) #[.pointer (some ⟨xb, 0, none⟩)] #[], .func (.func 79) #[] #[.pointer (some ⟨s4, 0, none⟩), .pointer (some ⟨s4 + 1, 0, none⟩)], .func (.func 70) #[.pointer (some ⟨xb, 0, none⟩)] #[], .func (.func 79) #[] #[.pointer (some ⟨s6, 0, none⟩), .pointer (some ⟨s6 + 1, 0, none⟩)], .func (.func 80) #[] #[.pointer (some ⟨s7, 0, none⟩), .pointer (some ⟨s7 + 1, 0, none⟩)], .func (.func 80) #[] #[.pointer (some ⟨s8, 0, none⟩), .pointer (some ⟨s8 + 1, 0, none⟩)], .func (.func 72) #[.pointer (some ⟨xb, 0, none⟩)] #[], .func (.func 73) #[.pointer (some ⟨xb, 0, none⟩)] #[], .func (.func 79) #[] #[.pointer (some ⟨s11, 0, none⟩), .pointer (some ⟨s11 + 1, 0, none⟩)], .func (.func 74) #[.pointer (some ⟨xb, 0, none⟩)] #[], .func (.func 79) #[] #[.pointer (some ⟨s13, 0, none⟩), .pointer (some ⟨s13 + 1, 0, none⟩)]] 88
  go_wp2_with fail
  obtain ⟨V, HV, eV⟩ := H3.name
  rw [← eV.out]
  rw [List.append_assoc] at HV
  generalize hbx : dtBoxes w0.heap.size rb xb s2 s4 s6 s7 s8 s11 s13 ++ _ = BX at HV
  have HBX := Lib.hid hbx
  clear hbx
  clear H2 H3 eV xd xs fq fx
  have il := (List.getElem?_eq_some_iff.1 hi2).1
  have jl2 := (List.getElem?_eq_some_iff.1 hj2).1
  refine (clearSweep_h HV i j q (get_app hi2 _) (get_app hq2 _) IJ.out h ⟨9, cy, t, 0, 0, 0⟩ dr (get_app hj2 _) (by show 0 ≤ cy; omega) (by show cy < 1000000; omega)).mono ?_
  rintro e w2 ⟨rfl, H5⟩
  rw [set_front _ hi2, set_front _ (set_get2 hj2 _ IJ.out)] at H5
  have H6 := H5.front
  rw [← HCS.out, List.set_comm _ _ (Ne.symm IJ.out), List.set_set] at H6
  clear H5
  obtain ⟨x0, x1, x2, x3, x4, x5, x6, x7, x8, fx⟩ := row9 (H6.get j (lset_same2 (set_get2 hj _ IJ.out) _))
  go_wp2_with fail
  go_end0
  refine ⟨rfl, ?_⟩
  exact H6.more (by rw [List.length_set]; exact JL.out) 1 (.int .i64 10)

set_option maxRecDepth 100000 in
set_option maxHeartbeats 4000000 in
theorem dtStep10 (cy t ek ea eb dr : Int) (hj : cs[j]? = some (dtC _ xb mb ⟨10, cy, t, ek, ea, eb⟩)) (c0 : 1 ≤ cy) (c1 : cy < 999999) :
    Calls Try.prog 16 #[.pointer (some ⟨xb, 0, none⟩), .pointer (some ⟨sb, 0, none⟩), .int .i64 dr] w fun e w' => e = .returned (.tuple #[]) ∧
      Has w0 w' ((cs.set i (storeC _ sb g (dtStep c l ⟨10, cy, t, ek, ea, eb⟩ dr).1 (dtCount ⟨10, cy, t, ek, ea, eb⟩ dr n))).set j (dtC _ xb mb (dtStep c l ⟨10, cy, t, ek, ea, eb⟩ dr).2)) := by
  obtain ⟨x0, x1, x2, x3, x4, x5, x6, x7, x8, fx⟩ := row9 (H.get j hj)
  have IJ := Lib.hid hij
  clear hij
  dsimp only at x1 x2 x3 x4 x5 x6 x7 x8
  go_enter Try.func16, Try.ntmps16
  have jl := (List.getElem?_eq_some_iff.1 hj).1
  have H1 : Has w0 _ (cs.set j (dtC _ xb mb ⟨10, cy, t, 0, 0, 0⟩)) := ((((H.blkSet j hj 4 (.int .i64 0)).more jl 5 (.int .i64 0)).more jl 6 (.int .i64 0)).more jl 7 (.int .i64 0)).more jl 8 (.int .i64 0)
  have JL := Lib.hid jl
  clear jl
  go_wp2_with fail
  obtain ⟨W, HW, eW⟩ := H1.name
  rw [← eW.out]
  clear H1 eW x0 x1 x2 x3 x4 x5 x6 x7 x8 fx
  have QJ : j ≠ q := by rintro rfl; rw [hj] at hq; exact absurd (congrArg (fun o => o.map Chunk.ro) hq) (by simp [dtC, blkC, mapC])
  have hj2 := lset_same2 hj (dtC w0.heap.size xb mb ⟨10, cy, t, 0, 0, 0⟩)
  have hi2 := set_get2 hi (dtC w0.heap.size xb mb ⟨10, cy, t, 0, 0, 0⟩) (Ne.symm IJ.out)
  have hq2 := set_get2 hq (dtC w0.heap.size xb mb ⟨10, cy, t, 0, 0, 0⟩) QJ
  clear QJ
  generalize hcs : cs.set j (dtC w0.heap.size xb mb ⟨10, cy, t, 0, 0, 0⟩) = ds at HW hi2 hj2 hq2
  have HCS := Lib.hid hcs
  clear hcs
  refine (does_h HW xb).mono ?_
  rintro e w1 ⟨rb, s2, s4, s6, s7, s8, s11, s13, rfl, H2⟩
  unfold dtFns
  obtain ⟨x0, x1, x2, x3, x4, x5, x6, x7, x8, fx⟩ := row9 (H2.get j (get_app hj2 _))
  have xd : w1.cell? ⟨xb, 1, none⟩ = some (.int .i64 10) := x1
  have xs : xb < w1.heap.size := (H2.lt j _ (get_app hj2 _) xb (by simp [dtC, blkC])).1
  have fq := fx 0
  clear x0 x1 x2 x3 x4 x5 x6 x7 x8
  have H3 := H2.blkNew #[.func (.func 66) #[.pointer (some ⟨xb, 0, none⟩)] #[], .func (.func 67) #[.pointer (some ⟨xb, 0, none⟩)] #[], .func (.func 79) #[] #[.pointer (some ⟨s2, 0, none⟩), .pointer (some ⟨s2 + 1, 0, none⟩)], .func (.func 69) #[.pointer (some ⟨xb, 0, none⟩)] #[], .func (.func 79) #[] #[.pointer (some ⟨s4, 0, none⟩), .pointer (some ⟨s4 + 1, 0, none⟩)], .func (.func 70) #[.pointer (some ⟨xb, 0, none⟩)] #[], .func (.func 79) #[] #[.pointer (some ⟨s6, 0, none⟩), .pointer (some ⟨s6 + 1, 0, none⟩)], .func (.func 80) #[] #[.pointer (some ⟨s7, 0, none⟩), .pointer (some ⟨s7 + 1, 0, none⟩)], .func (.func 80) #[] #[.pointer (some ⟨s8, 0, none⟩), .pointer (some ⟨s8 + 1, 0, none⟩)], .func (.func 72) #[.pointer (some ⟨xb, 0, none⟩)] #[], .func (.func 73) #[.pointer (some ⟨xb, 0, none⟩)] #[], .func (.func 79) #[] #[.pointer (some ⟨s11, 0, none⟩), .pointer (some ⟨s11 + 1, 0, none⟩)], .func (.func 74) #[.pointer (some ⟨xb, 0, none⟩)] #[], .func (.func 79) #[] #[.pointer (some ⟨s13, 0, none⟩), .pointer (some ⟨s13 + 1, 0, none⟩)]] 88
  go_wp2_with fail
  obtain ⟨V, HV, eV⟩ := H3.name
  rw [← eV.out]
  rw [List.append_assoc] at HV
  generalize hbx : dtBoxes w0.heap.size rb xb s2 s4 s6 s7 s8 s11 s13 ++ _ = BX at HV
  have HBX := Lib.hid hbx
  clear hbx
  clear H2 H3 eV xd xs fq fx
  have il := (List.getElem?_eq_some_iff.1 hi2).1
  have jl2 := (List.getElem?_eq_some_iff.1 hj2).1
  refine (clearDone_h HV i j q (get_app hi2 _) (get_app hq2 _) IJ.out h ⟨10, cy, t, 0, 0, 0⟩ dr (get_app hj2 _)).mono ?_
  rintro e w2 ⟨rfl, H5⟩
  rw [set_front _ hi2, set_front _ (set_get2 hj2 _ IJ.out)] at H5
  have H6 := H5.front
  rw [← HCS.out, List.set_comm _ _ (Ne.symm IJ.out), List.set_set] at H6
  clear H5
  obtain ⟨x0, x1, x2, x3, x4, x5, x6, x7, x8, fx⟩ := row9 (H6.get j (lset_same2 (set_get2 hj _ IJ.out) _))
  go_wp2_with fail
  go_end0
  refine ⟨rfl, ?_⟩
  exact H6.more (by rw [List.length_set]; exact JL.out) 1 (.int .i64 11)

set_option maxRecDepth 100000 in
set_option maxHeartbeats 4000000 in
theorem dtStep11 (cy t ek ea eb dr : Int) (hj : cs[j]? = some (dtC _ xb mb ⟨11, cy, t, ek, ea, eb⟩)) (c0 : 1 ≤ cy) (c1 : cy < 999999) :
    Calls Try.prog 16 #[.pointer (some ⟨xb, 0, none⟩), .pointer (some ⟨sb, 0, none⟩), .int .i64 dr] w fun e w' => e = .returned (.tuple #[]) ∧
      Has w0 w' ((cs.set i (storeC _ sb g (dtStep c l ⟨11, cy, t, ek, ea, eb⟩ dr).1 (dtCount ⟨11, cy, t, ek, ea, eb⟩ dr n))).set j (dtC _ xb mb (dtStep c l ⟨11, cy, t, ek, ea, eb⟩ dr).2)) := by
  obtain ⟨x0, x1, x2, x3, x4, x5, x6, x7, x8, fx⟩ := row9 (H.get j hj)
  have IJ := Lib.hid hij
  clear hij
  dsimp only at x1 x2 x3 x4 x5 x6 x7 x8
  go_enter Try.func16, Try.ntmps16
  have jl := (List.getElem?_eq_some_iff.1 hj).1
  have H1 : Has w0 _ (cs.set j (dtC _ xb mb ⟨11, cy, t, 0, 0, 0⟩)) := ((((H.blkSet j hj 4 (.int .i64 0)).more jl 5 (.int .i64 0)).more jl 6 (.int .i64 0)).more jl 7 (.int .i64 0)).more jl 8 (.int .i64 0)
  have JL := Lib.hid jl
  clear jl
  go_wp2_with fail
  obtain ⟨W, HW, eW⟩ := H1.name
  rw [← eW.out]
  clear H1 eW x0 x1 x2 x3 x4 x5 x6 x7 x8 fx
  have QJ : j ≠ q := by rintro rfl; rw [hj] at hq; exact absurd (congrArg (fun o => o.map Chunk.ro) hq) (by simp [dtC, blkC, mapC])
  have hj2 := lset_same2 hj (dtC w0.heap.size xb mb ⟨11, cy, t, 0, 0, 0⟩)
  have hi2 := set_get2 hi (dtC w0.heap.size xb mb ⟨11, cy, t, 0, 0, 0⟩) (Ne.symm IJ.out)
  have hq2 := set_get2 hq (dtC w0.heap.size xb mb ⟨11, cy, t, 0, 0, 0⟩) QJ
  clear QJ
  generalize hcs : cs.set j (dtC w0.heap.size xb mb ⟨11, cy, t, 0, 0, 0⟩) = ds at HW hi2 hj2 hq2
  have HCS := Lib.hid hcs
  clear hcs
  refine (does_h HW xb).mono ?_
  rintro e w1 ⟨rb, s2, s4, s6, s7, s8, s11, s13, rfl, H2⟩
  unfold dtFns
  obtain ⟨x0, x1, x2, x3, x4, x5, x6, x7, x8, fx⟩ := row9 (H2.get j (get_app hj2 _))
  have xd : w1.cell? ⟨xb, 1, none⟩ = some (.int .i64 11) := x1
  have xs : xb < w1.heap.size := (H2.lt j _ (get_app hj2 _) xb (by simp [dtC, blkC])).1
  have fq := fx 0
  clear x0 x1 x2 x3 x4 x5 x6 x7 x8
  have H3 := H2.blkNew #[.func (.func 66) #[.pointer (some ⟨xb, 0, none⟩)] #[], .func (.func 67) #[.pointer (some ⟨xb, 0, none⟩)] #[], .func (.func 79) #[] #[.pointer (some ⟨s2, 0, none⟩), .pointer (some ⟨s2 + 1, 0, none⟩)], .func (.func 69) #[.pointer (some ⟨xb, 0, none⟩)] #[], .func (.func 79) #[] #[.pointer (some ⟨s4, 0, none⟩), .pointer (some ⟨s4 + 1, 0, none⟩)], .func (.func 70) #[.pointer (some ⟨xb, 0, none⟩)] #[], .func (.func 79) #[] #[.pointer (some ⟨s6, 0, none⟩), .pointer (some ⟨s6 + 1, 0, none⟩)], .func (.func 80) #[] #[.pointer (some ⟨s7, 0, none⟩), .pointer (some ⟨s7 + 1, 0, none⟩)], .func (.func 80) #[] #[.pointer (some ⟨s8, 0, none⟩), .pointer (some ⟨s8 + 1, 0, none⟩)], .func (.func 72) #[.pointer (some ⟨xb, 0, none⟩)] #[], .func (.func 73) #[.pointer (some ⟨xb, 0, none⟩)] #[], .func (.func 79) #[] #[.pointer (some ⟨s11, 0, none⟩), .pointer (some ⟨s11 + 1, 0, none⟩)], .func (.func 74) #[.pointer (some ⟨xb, 0, none⟩)] #[], .func (.func 79) #[] #[.pointer (some ⟨s13, 0, none⟩), .pointer (some ⟨s13 + 1, 0, none⟩)]] 88
  go_wp2_with fail
  obtain ⟨V, HV, eV⟩ := H3.name
  rw [← eV.out]
  rw [List.append_assoc] at HV
  generalize hbx : dtBoxes w0.heap.size rb xb s2 s4 s6 s7 s8 s11 s13 ++ _ = BX at HV
  have HBX := Lib.hid hbx
  clear hbx
  clear H2 H3 eV xd xs fq fx
  have il := (List.getElem?_eq_some_iff.1 hi2).1
  have jl2 := (List.getElem?_eq_some_iff.1 hj2).1
  refine (tell1_h HV i j q (get_app hi2 _) (get_app hq2 _) IJ.out h (ds.length + 11) (ds.length + 12) 11 cy t 5 0 0 0 dr (get_app hj2 _) (by rw [get_at, ← HBX.out]; rfl) (by rw [get_at, ← HBX.out]; rfl) (by omega) (by omega) (by omega) (by omega) (by omega) (by omega) (by decide)).mono ?_
  rintro e w2 ⟨rfl, H5⟩
  rw [set_front _ hi2, set_front _ (set_get2 hj2 _ IJ.out)] at H5
  have H6 := H5.front
  rw [← HCS.out, List.set_comm _ _ (Ne.symm IJ.out), List.set_set] at H6
  clear H5
  obtain ⟨x0, x1, x2, x3, x4, x5, x6, x7, x8, fx⟩ := row9 (H6.get j (lset_same2 (set_get2 hj _ IJ.out) _))
  go_wp2_with fail
  go_end0
  refine ⟨rfl, ?_⟩
  exact H6.more (by rw [List.length_set]; exact JL.out) 1 (.int .i64 ((11 + 1) % 14 : Nat))

set_option maxRecDepth 100000 in
set_option maxHeartbeats 4000000 in
theorem dtStep12 (cy t ek ea eb dr : Int) (hj : cs[j]? = some (dtC _ xb mb ⟨12, cy, t, ek, ea, eb⟩)) (c0 : 1 ≤ cy) (c1 : cy < 999999) :
    Calls Try.prog 16 #[.pointer (some ⟨xb, 0, none⟩), .pointer (some ⟨sb, 0, none⟩), .int .i64 dr] w fun e w' => e = .returned (.tuple #[]) ∧
      Has w0 w' ((cs.set i (storeC _ sb g (dtStep c l ⟨12, cy, t, ek, ea, eb⟩ dr).1 (dtCount ⟨12, cy, t, ek, ea, eb⟩ dr n))).set j (dtC _ xb mb (dtStep c l ⟨12, cy, t, ek, ea, eb⟩ dr).2)) := by
  obtain ⟨x0, x1, x2, x3, x4, x5, x6, x7, x8, fx⟩ := row9 (H.get j hj)
  have IJ := Lib.hid hij
  clear hij
  dsimp only at x1 x2 x3 x4 x5 x6 x7 x8
  go_enter Try.func16, Try.ntmps16
  have jl := (List.getElem?_eq_some_iff.1 hj).1
  have H1 : Has w0 _ (cs.set j (dtC _ xb mb ⟨12, cy, t, 0, 0, 0⟩)) := ((((H.blkSet j hj 4 (.int .i64 0)).more jl 5 (.int .i64 0)).more jl 6 (.int .i64 0)).more jl 7 (.int .i64 0)).more jl 8 (.int .i64 0)
  have JL := Lib.hid jl
  clear jl
  go_wp2_with fail
  obtain ⟨W, HW, eW⟩ := H1.name
  rw [← eW.out]
  clear H1 eW x0 x1 x2 x3 x4 x5 x6 x7 x8 fx
  have QJ : j ≠ q := by rintro rfl; rw [hj] at hq; exact absurd (congrArg (fun o => o.map Chunk.ro) hq) (by simp [dtC, blkC, mapC])
  have hj2 := lset_same2 hj (dtC w0.heap.size xb mb ⟨12, cy, t, 0, 0, 0⟩)
  have hi2 := set_get2 hi (dtC w0.heap.size xb mb ⟨12, cy, t, 0, 0, 0⟩) (Ne.symm IJ.out)
  have hq2 := set_get2 hq (dtC w0.heap.size xb mb ⟨12, cy, t, 0, 0, 0⟩) QJ
  clear QJ
  generalize hcs : cs.set j (dtC w0.heap.size xb mb ⟨12, cy, t, 0, 0, 0⟩) = ds at HW hi2 hj2 hq2
  have HCS := Lib.hid hcs
  clear hcs
  refine (does_h HW xb).mono ?_
  rintro e w1 ⟨rb, s2, s4, s6, s7, s8, s11, s13, rfl, H2⟩
  unfold dtFns
  obtain ⟨x0, x1, x2, x3, x4, x5, x6, x7, x8, fx⟩ := row9 (H2.get j (get_app hj2 _))
  have xd : w1.cell? ⟨xb, 1, none⟩ = some (.int .i64 12) := x1
  have xs : xb < w1.heap.size := (H2.lt j _ (get_app hj2 _) xb (by simp [dtC, blkC])).1
  have fq := fx 0
  clear x0 x1 x2 x3 x4 x5 x6 x7 x8
  have H3 := H2.blkNew #[.func (.func 66) #[.pointer (some ⟨xb, 0, none⟩)] #[], .func (.func 67) #[.pointer (some ⟨xb, 0, none⟩)] #[], .func (.func 79) #[] #[.pointer (some ⟨s2, 0, none⟩), .pointer (some ⟨s2 + 1, 0, none⟩)], .func (.func 69) #[.pointer (some ⟨xb, 0, none⟩)] #[], .func (.func 79) #[] #[.pointer (some ⟨s4, 0, none⟩), .pointer (some ⟨s4 + 1, 0, none⟩)], .func (.func 70) #[.pointer (some ⟨xb, 0, none⟩)] #[], .func (.func 79) #[] #[.pointer (some ⟨s6, 0, none⟩), .pointer (some ⟨s6 + 1, 0, none⟩)], .func (.func 80) #[] #[.pointer (some ⟨s7, 0, none⟩), .pointer (some ⟨s7 + 1, 0, none⟩)], .func (.func 80) #[] #[.pointer (some ⟨s8, 0, none⟩), .pointer (some ⟨s8 + 1, 0, none⟩)], .func (.func 72) #[.pointer (some ⟨xb, 0, none⟩)] #[], .func (.func 73) #[.pointer (some ⟨xb, 0, none⟩)] #[], .func (.func 79) #[] #[.pointer (some ⟨s11, 0, none⟩), .pointer (some ⟨s11 + 1, 0, none⟩)], .func (.func 74) #[.pointer (some ⟨xb, 0, none⟩)] #[], .func (.func 79) #[] #[.pointer (some ⟨s13, 0, none⟩), .pointer (some ⟨s13 + 1, 0, none⟩)]] 88
  go_wp2_with fail
  obtain ⟨V, HV, eV⟩ := H3.name
  rw [← eV.out]
  rw [List.append_assoc] at HV
  generalize hbx : dtBoxes w0.heap.size rb xb s2 s4 s6 s7 s8 s11 s13 ++ _ = BX at HV
  have HBX := Lib.hid hbx
  clear hbx
  clear H2 H3 eV xd xs fq fx
  have il := (List.getElem?_eq_some_iff.1 hi2).1
  have jl2 := (List.getElem?_eq_some_iff.1 hj2).1
  refine (end_h HV i j q (get_app hi2 _) (get_app hq2 _) IJ.out h ⟨12, cy, t, 0, 0, 0⟩ dr (get_app hj2 _)).mono ?_
  rintro e w2 ⟨rfl, H5⟩
  rw [set_front _ hi2, set_front _ (set_get2 hj2 _ IJ.out)] at H5
  have H6 := H5.front
  rw [← HCS.out, List.set_comm _ _ (Ne.symm IJ.out), List.set_set] at H6
  clear H5
  obtain ⟨x0, x1, x2, x3, x4, x5, x6, x7, x8, fx⟩ := row9 (H6.get j (lset_same2 (set_get2 hj _ IJ.out) _))
  go_wp2_with fail
  go_end0
  refine ⟨rfl, ?_⟩
  exact H6.more (by rw [List.length_set]; exact JL.out) 1 (.int .i64 (bif mld l 3 != c.pt then 12 else 13 : Nat))

set_option maxRecDepth 100000 in
set_option maxHeartbeats 4000000 in
theorem dtStep13 (cy t ek ea eb dr : Int) (hj : cs[j]? = some (dtC _ xb mb ⟨13, cy, t, ek, ea, eb⟩)) (c0 : 1 ≤ cy) (c1 : cy < 999999) :
    Calls Try.prog 16 #[.pointer (some ⟨xb, 0, none⟩), .pointer (some ⟨sb, 0, none⟩), .int .i64 dr] w fun e w' => e = .returned (.tuple #[]) ∧
      Has w0 w' ((cs.set i (storeC _ sb g (dtStep c l ⟨13, cy, t, ek, ea, eb⟩ dr).1 (dtCount ⟨13, cy, t, ek, ea, eb⟩ dr n))).set j (dtC _ xb mb (dtStep c l ⟨13, cy, t, ek, ea, eb⟩ dr).2)) := by
  obtain ⟨x0, x1, x2, x3, x4, x5, x6, x7, x8, fx⟩ := row9 (H.get j hj)
  have IJ := Lib.hid hij
  clear hij
  dsimp only at x1 x2 x3 x4 x5 x6 x7 x8
  go_enter Try.func16, Try.ntmps16
  have jl := (List.getElem?_eq_some_iff.1 hj).1
  have H1 : Has w0 _ (cs.set j (dtC _ xb mb ⟨13, cy, t, 0, 0, 0⟩)) := ((((H.blkSet j hj 4 (.int .i64 0)).more jl 5 (.int .i64 0)).more jl 6 (.int .i64 0)).more jl 7 (.int .i64 0)).more jl 8 (.int .i64 0)
  have JL := Lib.hid jl
  clear jl
  go_wp2_with fail
  obtain ⟨W, HW, eW⟩ := H1.name
  rw [← eW.out]
  clear H1 eW x0 x1 x2 x3 x4 x5 x6 x7 x8 fx
  have QJ : j ≠ q := by rintro rfl; rw [hj] at hq; exact absurd (congrArg (fun o => o.map Chunk.ro) hq) (by simp [dtC, blkC, mapC])
  have hj2 := lset_same2 hj (dtC w0.heap.size xb mb ⟨13, cy, t, 0, 0, 0⟩)
  have hi2 := set_get2 hi (dtC w0.heap.size xb mb ⟨13, cy, t, 0, 0, 0⟩) (Ne.symm IJ.out)
  have hq2 := set_get2 hq (dtC w0.heap.size xb mb ⟨13, cy, t, 0, 0, 0⟩) QJ
  clear QJ
  generalize hcs : cs.set j (dtC w0.heap.size xb mb ⟨13, cy, t, 0, 0, 0⟩) = ds at HW hi2 hj2 hq2
  have HCS := Lib.hid hcs
  clear hcs
  refine (does_h HW xb).mono ?_
  rintro e w1 ⟨rb, s2, s4, s6, s7, s8, s11, s13, rfl, H2⟩
  unfold dtFns
  obtain ⟨x0, x1, x2, x3, x4, x5, x6, x7, x8, fx⟩ := row9 (H2.get j (get_app hj2 _))
  have xd : w1.cell? ⟨xb, 1, none⟩ = some (.int .i64 13) := x1
  have xs : xb < w1.heap.size := (H2.lt j _ (get_app hj2 _) xb (by simp [dtC, blkC])).1
  have fq := fx 0
  clear x0 x1 x2 x3 x4 x5 x6 x7 x8
  have H3 := H2.blkNew #[.func (.func 66) #[.pointer (some ⟨xb, 0, none⟩)] #[], .func (.func 67) #[.pointer (some ⟨xb, 0, none⟩)] #[], .func (.func 79) #[] #[.pointer (some ⟨s2, 0, none⟩), .pointer (some ⟨s2 + 1, 0, none⟩)], .func (.func 69) #[.pointer (some ⟨xb, 0, none⟩)] #[], .func (.func 79) #[] #[.pointer (some ⟨s4, 0, none⟩), .pointer (some ⟨s4 + 1, 0, none⟩)], .func (.func 70) #[.pointer (some ⟨xb, 0, none⟩)] #[], .func (.func 79) #[] #[.pointer (some ⟨s6, 0, none⟩), .pointer (some ⟨s6 + 1, 0, none⟩)], .func (.func 80) #[] #[.pointer (some ⟨s7, 0, none⟩), .pointer (some ⟨s7 + 1, 0, none⟩)], .func (.func 80) #[] #[.pointer (some ⟨s8, 0, none⟩), .pointer (some ⟨s8 + 1, 0, none⟩)], .func (.func 72) #[.pointer (some ⟨xb, 0, none⟩)] #[], .func (.func 73) #[.pointer (some ⟨xb, 0, none⟩)] #[], .func (.func 79) #[] #[.pointer (some ⟨s11, 0, none⟩), .pointer (some ⟨s11 + 1, 0, none⟩)], .func (.func 74) #[.pointer (some ⟨xb, 0, none⟩)] #[], .func (.func 79) #[] #[.pointer (some ⟨s13, 0, none⟩), .pointer (some ⟨s13 + 1, 0, none⟩)]] 88
  go_wp2_with fail
  obtain ⟨V, HV, eV⟩ := H3.name
  rw [← eV.out]
  rw [List.append_assoc] at HV
  generalize hbx : dtBoxes w0.heap.size rb xb s2 s4 s6 s7 s8 s11 s13 ++ _ = BX at HV
  have HBX := Lib.hid hbx
  clear hbx
  clear H2 H3 eV xd xs fq fx
  have il := (List.getElem?_eq_some_iff.1 hi2).1
  have jl2 := (List.getElem?_eq_some_iff.1 hj2).1
  refine (tell1_h HV i j q (get_app hi2 _) (get_app hq2 _) IJ.out h (ds.length + 13) (ds.length + 14) 13 cy t 0 0 0 0 dr (get_app hj2 _) (by rw [get_at, ← HBX.out]; rfl) (by rw [get_at, ← HBX.out]; rfl) (by omega) (by omega) (by omega) (by omega) (by omega) (by omega) (by decide)).mono ?_
  rintro e w2 ⟨rfl, H5⟩
  rw [set_front _ hi2, set_front _ (set_get2 hj2 _ IJ.out)] at H5
  have H6 := H5.front
  rw [← HCS.out, List.set_comm _ _ (Ne.symm IJ.out), List.set_set] at H6
  clear H5
  obtain ⟨x0, x1, x2, x3, x4, x5, x6, x7, x8, fx⟩ := row9 (H6.get j (lset_same2 (set_get2 hj _ IJ.out) _))
  go_wp2_with fail
  go_end0
  refine ⟨rfl, ?_⟩
  exact H6.more (by rw [List.length_set]; exact JL.out) 1 (.int .i64 ((13 + 1) % 14 : Nat))

/-- One step of a detector. -/
theorem dtStep_h (x : Dt) (dr : Int) (hj : cs[j]? = some (dtC _ xb mb x)) (ok : DtOk c x) (c1 : x.cy < 999999) (r0 : 0 ≤ dr) :
    Calls Try.prog 16 #[.pointer (some ⟨xb, 0, none⟩), .pointer (some ⟨sb, 0, none⟩), .int .i64 dr] w fun e w' => e = .returned (.tuple #[]) ∧
      Has w0 w' ((cs.set i (storeC _ sb g (dtStep c l x dr).1 (dtCount x dr n))).set j (dtC _ xb mb (dtStep c l x dr).2)) := by
  obtain ⟨d, cy, t, ek, ea, eb⟩ := x
  obtain ⟨h1, h2, h3, h4, h5, h6⟩ := ok
  have hm := h.mu
  dsimp only at h1 h2 h3 h4 h5 h6 c1
  have t4 : t ≤ 4 := by omega
  match d, h1 with
  | 0, _ =>
    by_cases hb : (dr % 2 == 0) = true
    · exact dtStep0e H i j q hi hq hij h cy t ek ea eb dr hj h2 c1 r0 hb
    · exact dtStep0o H i j q hi hq hij h cy t ek ea eb dr hj h2 c1 r0 (by simpa using hb)
  | 1, _ => exact dtStep1 H i j q hi hq hij h cy t ek ea eb dr hj (h3 (by omega)) c1 h4 t4
  | 2, _ => exact dtStep2 H i j q hi hq hij h cy t ek ea eb dr hj (h3 (by omega)) c1
  | 3, _ => exact dtStep3 H i j q hi hq hij h cy t ek ea eb dr hj (h3 (by omega)) c1 h4 t4
  | 4, _ => exact dtStep4 H i j q hi hq hij h cy t ek ea eb dr hj (h3 (by omega)) c1
  | 5, _ => exact dtStep5 H i j q hi hq hij h cy t ek ea eb dr hj (h3 (by omega)) c1 h4 t4
  | 6, _ => exact dtStep6 H i j q hi hq hij h cy t ek ea eb dr hj (h3 (by omega)) c1
  | 7, _ => exact dtStep7 H i j q hi hq hij h cy t ek ea eb dr hj (h3 (by omega)) c1
  | 8, _ => exact dtStep8 H i j q hi hq hij h cy t ek ea eb dr hj (h3 (by omega)) c1
  | 9, _ => exact dtStep9 H i j q hi hq hij h cy t ek ea eb dr hj (h3 (by omega)) c1
  | 10, _ => exact dtStep10 H i j q hi hq hij h cy t ek ea eb dr hj (h3 (by omega)) c1
  | 11, _ => exact dtStep11 H i j q hi hq hij h cy t ek ea eb dr hj (h3 (by omega)) c1
  | 12, _ => exact dtStep12 H i j q hi hq hij h cy t ek ea eb dr hj (h3 (by omega)) c1
  | 13, _ => exact dtStep13 H i j q hi hq hij h cy t ek ea eb dr hj (h3 (by omega)) c1

end

end Go.Proofs.Ytgodnmcfbbchoaa
