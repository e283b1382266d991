/- The reference's machine of layer 12, step by step. Under way. -/
import Derived.Test.YtfcookfocihjlaaMeth12
import Derived.Test.YtfcookfocihjlaaRef6H
set_option linter.unusedVariables false
set_option linter.unusedSimpArgs false
namespace Go.Proofs.Ytfcookfocihjlaa
open Go.ChangeShapes Go.WideShapes Go.ChangeAt Go.RowKit

def clV (m : Cl) : Value := .agg #[.int .i64 m.pc, .int .i64 m.v, .int .u64 m.cy, .int .u64 m.k, .bool m.won]

theorem get3 {α : Type} (l : List α) (a b d : α) : (l ++ [a] ++ [b] ++ [d])[l.length + 1]? = some b ∧ (l ++ [a] ++ [b] ++ [d])[l.length + 2]? = some d := by
  constructor <;> simp [List.getElem?_append]

set_option maxRecDepth 100000 in
set_option maxHeartbeats 4000000 in
theorem rstep0 {w0 w : World} {cs : List (Chunk w0.heap.size)} (H : Has w0 w cs) (i q : Nat) {mv lv : Value} {l : List Int} {c : Cfg} (n v cy k : Int) (won : Bool) (hi : cs[i]? = some (slC _ .u64 mv l)) (hq : cs[q]? = some (ownT _ lv c.things)) (h : CfgOk c) :
    Calls Try.prog 26 #[.agg #[lv, .int .i64 n], mv, clV ⟨v, cy, k, won, 0⟩] w fun e w' => e = .returned (.tuple #[mv, clV ⟨v, cy, k, won, 0⟩]) ∧ Has w0 w' cs := by
  obtain ⟨la, lc, rfl⟩ := own_is (H.get q hq)
  obtain ⟨ma, mc, rfl, -, -⟩ := H.sl i hi
  have HQ := Lib.hid hq
  have HI := Lib.hid hi
  clear hq hi
  unfold clV
  go_enter Try.func26, Try.ntmps26
  have G0 := ((H.blkNew #[.slice la c.things.length lc, .int .i64 n] 56).blkNew #[.int .i64 0, .int .i64 v, .int .u64 cy, .int .u64 k, .bool won] 61).blkNew #[.int .i64 0, .int .i64 0, .int .u64 0, .int .u64 0, .bool false] 61
  have z1 : ∀ (w : World) o, (w.alloc o).heap.size = w.heap.size + 1 := fun w o => by simp
  simp only [z1] at G0
  clear z1
  go_wp2_with fail
  refine (RAt11_h G0 q n (get_app (get_app (get_app HQ.out _) _) _) h ⟨16, v, 0⟩ ⟨by dsimp only; omega, (fun r => by exfalso; have : (16 : Int) ≤ 5 := r; omega), fun _ => rfl⟩).mono ?_
  rintro e w1 ⟨rfl, G1⟩
  obtain ⟨g1, g2⟩ := get3 cs (blkC w0.heap.size w.heap.size #[.slice la c.things.length lc, .int .i64 n] 56) (blkC w0.heap.size (w.heap.size + 1) #[.int .i64 0, .int .i64 v, .int .u64 cy, .int .u64 k, .bool won] 61) (blkC w0.heap.size (w.heap.size + 1 + 1) #[.int .i64 0, .int .i64 0, .int .u64 0, .int .u64 0, .bool false] 61)
  have hb1 := G1.get (cs.length + 1) g1
  have hb2 := G1.get (cs.length + 2) g2
  obtain ⟨b0, b1, b2, b3, b4, fb⟩ := row5 hb1
  obtain ⟨r0, r1, r2, r3, r4, fr⟩ := row5 hb2
  clear G0
  go_wp2_with fail
  have gl : ∀ (x y : Chunk w0.heap.size) (a b : Chunk w0.heap.size), ((cs ++ [a] ++ [b] ++ [x]).set (cs.length + 2) y) = cs ++ [a] ++ [b] ++ [y] := by
    intro x y a b
    have e : cs.length + 2 = (cs ++ [a] ++ [b]).length := by simp
    rw [e, set_last]
  have S1 := G1.blkSet _ g2 0 (.int .i64 0)
  rw [gl] at S1
  have S2 := S1.blkSet _ (get3 cs _ _ _).2 1 (.int .i64 v)
  rw [gl] at S2
  have S3 := S2.blkSet _ (get3 cs _ _ _).2 2 (.int .u64 cy)
  rw [gl] at S3
  have S4 := S3.blkSet _ (get3 cs _ _ _).2 3 (.int .u64 k)
  rw [gl] at S4
  have S5 := S4.blkSet _ (get3 cs _ _ _).2 4 (.bool won)
  rw [gl] at S5
  clear S1 S2 S3 S4
  go_region
  all_goals (go_wp2_with fail)
  obtain ⟨r0, r1, r2, r3, r4, fr⟩ := row5 (S5.get _ (get3 cs _ _ _).2)
  refine bodyPost_ret (v := .tuple #[.slice ma l.length mc, .agg #[.int .i64 0, .int .i64 v, .int .u64 cy, .int .u64 k, .bool won]]) (by simp [results, Try.results26, go_sem, r0, r1, r2, r3, r4]) rfl ⟨rfl, ?_⟩
  exact S5.drew.front.front.front

set_option maxRecDepth 100000 in
set_option maxHeartbeats 4000000 in
theorem rstep2 {w0 w : World} {cs : List (Chunk w0.heap.size)} (H : Has w0 w cs) (i q : Nat) {mv lv : Value} {l : List Int} {c : Cfg} (n v cy k : Int) (won : Bool) (hi : cs[i]? = some (slC _ .u64 mv l)) (hq : cs[q]? = some (ownT _ lv c.things)) (h : CfgOk c) (hl : l.length < 1000000000000) :
    Calls Try.prog 26 #[.agg #[lv, .int .i64 n], mv, clV ⟨v, cy, k, won, 2⟩] w fun e w' => ∃ mv', e = .returned (.tuple #[mv', clV ⟨v, cy, k, won, 3⟩]) ∧ Has w0 w' (cs.set i (slC _ .u64 mv' (madd l 1 1))) := by
  obtain ⟨la, lc, rfl⟩ := own_is (H.get q hq)
  obtain ⟨ma, mc, rfl, -, -⟩ := H.sl i hi
  have HQ := Lib.hid hq
  have HI := Lib.hid hi
  clear hq hi
  unfold clV
  go_enter Try.func26, Try.ntmps26
  have G0 := ((H.blkNew #[.slice la c.things.length lc, .int .i64 n] 56).blkNew #[.int .i64 2, .int .i64 v, .int .u64 cy, .int .u64 k, .bool won] 61).blkNew #[.int .i64 0, .int .i64 0, .int .u64 0, .int .u64 0, .bool false] 61
  have z1 : ∀ (w : World) o, (w.alloc o).heap.size = w.heap.size + 1 := fun w o => by simp
  simp only [z1] at G0
  clear z1
  go_wp2_with fail
  refine (RAt11_h G0 q n (get_app (get_app (get_app HQ.out _) _) _) h ⟨16, v, 0⟩ ⟨by dsimp only; omega, (fun r => by exfalso; have : (16 : Int) ≤ 5 := r; omega), fun _ => rfl⟩).mono ?_
  rintro e w1 ⟨rfl, G1⟩
  obtain ⟨g1, g2⟩ := get3 cs (blkC w0.heap.size w.heap.size #[.slice la c.things.length lc, .int .i64 n] 56) (blkC w0.heap.size (w.heap.size + 1) #[.int .i64 2, .int .i64 v, .int .u64 cy, .int .u64 k, .bool won] 61) (blkC w0.heap.size (w.heap.size + 1 + 1) #[.int .i64 0, .int .i64 0, .int .u64 0, .int .u64 0, .bool false] 61)
  have hb1 := G1.get (cs.length + 1) g1
  have hb2 := G1.get (cs.length + 2) g2
  obtain ⟨b0, b1, b2, b3, b4, fb⟩ := row5 hb1
  obtain ⟨r0, r1, r2, r3, r4, fr⟩ := row5 hb2
  clear G0
  go_wp2_with fail
  refine (RAdd_h G1 i (get_app (get_app (get_app HI.out _) _) _) 1 1 hl).mono ?_
  rintro e w2 ⟨mv', rfl, G2⟩
  have hil := (List.getElem?_eq_some_iff.1 HI.out).1
  have sa : ∀ (x : Chunk w0.heap.size) (a b d : Chunk w0.heap.size), (cs ++ [a] ++ [b] ++ [d]).set i x = cs.set i x ++ [a] ++ [b] ++ [d] := by
    intro x a b d
    rw [List.set_append_left _ _ (by simp; omega), List.set_append_left _ _ (by simp; omega), List.set_append_left _ _ hil]
  rw [sa] at G2
  clear b0 b1 b2 b3 b4 fb r0 r1 r2 r3 r4 fr g1 g2 hb1 hb2 sa
  obtain ⟨cs', hcs⟩ : ∃ cs', cs' = cs.set i (slC _ .u64 mv' (madd l 1 1)) := ⟨_, rfl⟩
  rw [← hcs] at G2
  have hci : cs'[i]? = some (slC _ .u64 mv' (madd l 1 1)) := by rw [hcs]; exact lset_same HI.out _
  have HCS := Lib.hid hcs
  clear hcs
  obtain ⟨na, nc, rfl, -, -⟩ := G2.sl i (get_app (get_app (get_app hci _) _) _)
  clear hci
  obtain ⟨b0, b1, b2, b3, b4, fb⟩ := row5 (G2.get (cs'.length + 1) (get3 cs' _ _ _).1)
  obtain ⟨r0, r1, r2, r3, r4, fr⟩ := row5 (G2.get (cs'.length + 2) (get3 cs' _ _ _).2)
  have gm : ∀ (x y a b : Chunk w0.heap.size), ((cs' ++ [a] ++ [x] ++ [b]).set (cs'.length + 1) y) = cs' ++ [a] ++ [y] ++ [b] := by
    intro x y a b
    have e : cs'.length + 1 = (cs' ++ [a]).length := by simp
    rw [List.set_append_left _ _ (by simp), e, set_last]
  have gl : ∀ (x y : Chunk w0.heap.size) (a b : Chunk w0.heap.size), ((cs' ++ [a] ++ [b] ++ [x]).set (cs'.length + 2) y) = cs' ++ [a] ++ [b] ++ [y] := by
    intro x y a b
    have e : cs'.length + 2 = (cs' ++ [a] ++ [b]).length := by simp
    rw [e, set_last]
  have S0 := G2.blkSet _ (get3 cs' _ _ _).1 0 (.int .i64 3)
  rw [gm] at S0
  obtain ⟨W, HW, eW⟩ := S0.name
  go_wp2_with fail
  rw [← eW.out]
  clear S0 eW G2 b0 b1 b2 b3 b4 fb r0 r1 r2 r3 r4 fr
  obtain ⟨b0, b1, b2, b3, b4, fb⟩ := row5 (HW.get (cs'.length + 1) (get3 cs' _ _ _).1)
  obtain ⟨r0, r1, r2, r3, r4, fr⟩ := row5 (HW.get (cs'.length + 2) (get3 cs' _ _ _).2)
  have S1 := HW.blkSet _ (get3 cs' _ _ _).2 0 (.int .i64 3)
  rw [gl] at S1
  have S2 := S1.blkSet _ (get3 cs' _ _ _).2 1 (.int .i64 v)
  rw [gl] at S2
  have S3 := S2.blkSet _ (get3 cs' _ _ _).2 2 (.int .u64 cy)
  rw [gl] at S3
  have S4 := S3.blkSet _ (get3 cs' _ _ _).2 3 (.int .u64 k)
  rw [gl] at S4
  have S5 := S4.blkSet _ (get3 cs' _ _ _).2 4 (.bool won)
  rw [gl] at S5
  clear S1 S2 S3 S4
  go_region
  all_goals (go_wp2_with fail)
  obtain ⟨r0, r1, r2, r3, r4, fr⟩ := row5 (S5.get _ (get3 cs' _ _ _).2)
  refine bodyPost_ret (v := .tuple #[.slice na (madd l 1 1).length nc, .agg #[.int .i64 3, .int .i64 v, .int .u64 cy, .int .u64 k, .bool won]]) (by simp [results, Try.results26, go_sem, r0, r1, r2, r3, r4]) rfl ⟨_, rfl, ?_⟩
  rw [← HCS.out]
  exact S5.drew.front.front.front

set_option maxRecDepth 100000 in
set_option maxHeartbeats 4000000 in
theorem rstep4 {w0 w : World} {cs : List (Chunk w0.heap.size)} (H : Has w0 w cs) (i q : Nat) {mv lv : Value} {l : List Int} {c : Cfg} (n v cy k : Int) (won : Bool) (hi : cs[i]? = some (slC _ .u64 mv l)) (hq : cs[q]? = some (ownT _ lv c.things)) (h : CfgOk c) (hl : l.length < 1000000000000) :
    Calls Try.prog 26 #[.agg #[lv, .int .i64 n], mv, clV ⟨v, cy, k, won, 4⟩] w fun e w' => ∃ mv', e = .returned (.tuple #[mv', clV ⟨v, cy, k, won, 0⟩]) ∧ Has w0 w' (cs.set i (slC _ .u64 mv' (madd l 1 18446744073709551615))) := by
  obtain ⟨la, lc, rfl⟩ := own_is (H.get q hq)
  obtain ⟨ma, mc, rfl, -, -⟩ := H.sl i hi
  have HQ := Lib.hid hq
  have HI := Lib.hid hi
  clear hq hi
  unfold clV
  go_enter Try.func26, Try.ntmps26
  have G0 := ((H.blkNew #[.slice la c.things.length lc, .int .i64 n] 56).blkNew #[.int .i64 4, .int .i64 v, .int .u64 cy, .int .u64 k, .bool won] 61).blkNew #[.int .i64 0, .int .i64 0, .int .u64 0, .int .u64 0, .bool false] 61
  have z1 : ∀ (w : World) o, (w.alloc o).heap.size = w.heap.size + 1 := fun w o => by simp
  simp only [z1] at G0
  clear z1
  go_wp2_with fail
  refine (RAt11_h G0 q n (get_app (get_app (get_app HQ.out _) _) _) h ⟨16, v, 0⟩ ⟨by dsimp only; omega, (fun r => by exfalso; have : (16 : Int) ≤ 5 := r; omega), fun _ => rfl⟩).mono ?_
  rintro e w1 ⟨rfl, G1⟩
  obtain ⟨g1, g2⟩ := get3 cs (blkC w0.heap.size w.heap.size #[.slice la c.things.length lc, .int .i64 n] 56) (blkC w0.heap.size (w.heap.size + 1) #[.int .i64 4, .int .i64 v, .int .u64 cy, .int .u64 k, .bool won] 61) (blkC w0.heap.size (w.heap.size + 1 + 1) #[.int .i64 0, .int .i64 0, .int .u64 0, .int .u64 0, .bool false] 61)
  have hb1 := G1.get (cs.length + 1) g1
  have hb2 := G1.get (cs.length + 2) g2
  obtain ⟨b0, b1, b2, b3, b4, fb⟩ := row5 hb1
  obtain ⟨r0, r1, r2, r3, r4, fr⟩ := row5 hb2
  clear G0
  go_wp2_with fail
  refine (RAdd_h G1 i (get_app (get_app (get_app HI.out _) _) _) 1 18446744073709551615 hl).mono ?_
  rintro e w2 ⟨mv', rfl, G2⟩
  have hil := (List.getElem?_eq_some_iff.1 HI.out).1
  have sa : ∀ (x : Chunk w0.heap.size) (a b d : Chunk w0.heap.size), (cs ++ [a] ++ [b] ++ [d]).set i x = cs.set i x ++ [a] ++ [b] ++ [d] := by
    intro x a b d
    rw [List.set_append_left _ _ (by simp; omega), List.set_append_left _ _ (by simp; omega), List.set_append_left _ _ hil]
  rw [sa] at G2
  clear b0 b1 b2 b3 b4 fb r0 r1 r2 r3 r4 fr g1 g2 hb1 hb2 sa
  obtain ⟨cs', hcs⟩ : ∃ cs', cs' = cs.set i (slC _ .u64 mv' (madd l 1 18446744073709551615)) := ⟨_, rfl⟩
  rw [← hcs] at G2
  have hci : cs'[i]? = some (slC _ .u64 mv' (madd l 1 18446744073709551615)) := by rw [hcs]; exact lset_same HI.out _
  have HCS := Lib.hid hcs
  clear hcs
  obtain ⟨na, nc, rfl, -, -⟩ := G2.sl i (get_app (get_app (get_app hci _) _) _)
  clear hci
  obtain ⟨b0, b1, b2, b3, b4, fb⟩ := row5 (G2.get (cs'.length + 1) (get3 cs' _ _ _).1)
  obtain ⟨r0, r1, r2, r3, r4, fr⟩ := row5 (G2.get (cs'.length + 2) (get3 cs' _ _ _).2)
  have gm : ∀ (x y a b : Chunk w0.heap.size), ((cs' ++ [a] ++ [x] ++ [b]).set (cs'.length + 1) y) = cs' ++ [a] ++ [y] ++ [b] := by
    intro x y a b
    have e : cs'.length + 1 = (cs' ++ [a]).length := by simp
    rw [List.set_append_left _ _ (by simp), e, set_last]
  have gl : ∀ (x y : Chunk w0.heap.size) (a b : Chunk w0.heap.size), ((cs' ++ [a] ++ [b] ++ [x]).set (cs'.length + 2) y) = cs' ++ [a] ++ [b] ++ [y] := by
    intro x y a b
    have e : cs'.length + 2 = (cs' ++ [a] ++ [b]).length := by simp
    rw [e, set_last]
  have S0 := G2.blkSet _ (get3 cs' _ _ _).1 0 (.int .i64 0)
  rw [gm] at S0
  obtain ⟨W, HW, eW⟩ := S0.name
  go_wp2_with fail
  rw [← eW.out]
  clear S0 eW G2 b0 b1 b2 b3 b4 fb r0 r1 r2 r3 r4 fr
  obtain ⟨b0, b1, b2, b3, b4, fb⟩ := row5 (HW.get (cs'.length + 1) (get3 cs' _ _ _).1)
  obtain ⟨r0, r1, r2, r3, r4, fr⟩ := row5 (HW.get (cs'.length + 2) (get3 cs' _ _ _).2)
  have S1 := HW.blkSet _ (get3 cs' _ _ _).2 0 (.int .i64 0)
  rw [gl] at S1
  have S2 := S1.blkSet _ (get3 cs' _ _ _).2 1 (.int .i64 v)
  rw [gl] at S2
  have S3 := S2.blkSet _ (get3 cs' _ _ _).2 2 (.int .u64 cy)
  rw [gl] at S3
  have S4 := S3.blkSet _ (get3 cs' _ _ _).2 3 (.int .u64 k)
  rw [gl] at S4
  have S5 := S4.blkSet _ (get3 cs' _ _ _).2 4 (.bool won)
  rw [gl] at S5
  clear S1 S2 S3 S4
  go_region
  all_goals (go_wp2_with fail)
  obtain ⟨r0, r1, r2, r3, r4, fr⟩ := row5 (S5.get _ (get3 cs' _ _ _).2)
  refine bodyPost_ret (v := .tuple #[.slice na (madd l 1 18446744073709551615).length nc, .agg #[.int .i64 0, .int .i64 v, .int .u64 cy, .int .u64 k, .bool won]]) (by simp [results, Try.results26, go_sem, r0, r1, r2, r3, r4]) rfl ⟨_, rfl, ?_⟩
  rw [← HCS.out]
  exact S5.drew.front.front.front

set_option maxRecDepth 100000 in
set_option maxHeartbeats 4000000 in
theorem rstep3 {w0 w : World} {cs : List (Chunk w0.heap.size)} (H : Has w0 w cs) (i q : Nat) {mv lv : Value} {l : List Int} {c : Cfg} (n v cy k : Int) (won : Bool) (hi : cs[i]? = some (slC _ .u64 mv l)) (hq : cs[q]? = some (ownT _ lv c.things)) (h : CfgOk c) (hl : l.length < 1000000000000) :
    Calls Try.prog 26 #[.agg #[lv, .int .i64 n], mv, clV ⟨v, cy, k, won, 3⟩] w fun e w' => ∃ mv', e = .returned (.tuple #[mv', clV ⟨v, cy, k, mswapped l (c.nodeAt v 2) k, clPc (mswapped l (c.nodeAt v 2) k) 4⟩]) ∧ Has w0 w' (cs.set i (slC _ .u64 mv' (mswap l (c.nodeAt v 2) k cy))) := by
  obtain ⟨B, hB⟩ : ∃ B, B = mswapped l (c.nodeAt v 2) k := ⟨_, rfl⟩
  rw [← hB]
  have HB := Lib.hid hB
  clear hB
  have hat : c.atOf ⟨16, v, 0⟩ = c.nodeAt v 2 := atOfN 16 v 0 (by omega) (by omega)
  have HAT := Lib.hid hat
  clear hat
  obtain ⟨la, lc, rfl⟩ := own_is (H.get q hq)
  obtain ⟨ma, mc, rfl, -, -⟩ := H.sl i hi
  have HQ := Lib.hid hq
  have HI := Lib.hid hi
  clear hq hi
  unfold clV
  go_enter Try.func26, Try.ntmps26
  have G0 := ((H.blkNew #[.slice la c.things.length lc, .int .i64 n] 56).blkNew #[.int .i64 3, .int .i64 v, .int .u64 cy, .int .u64 k, .bool won] 61).blkNew #[.int .i64 0, .int .i64 0, .int .u64 0, .int .u64 0, .bool false] 61
  have z1 : ∀ (w : World) o, (w.alloc o).heap.size = w.heap.size + 1 := fun w o => by simp
  simp only [z1] at G0
  clear z1
  go_wp2_with fail
  refine (RAt11_h G0 q n (get_app (get_app (get_app HQ.out _) _) _) h ⟨16, v, 0⟩ ⟨by dsimp only; omega, (fun r => by exfalso; have : (16 : Int) ≤ 5 := r; omega), fun _ => rfl⟩).mono ?_
  rw [HAT.out]
  rintro e w1 ⟨rfl, G1⟩
  obtain ⟨g1, g2⟩ := get3 cs (blkC w0.heap.size w.heap.size #[.slice la c.things.length lc, .int .i64 n] 56) (blkC w0.heap.size (w.heap.size + 1) #[.int .i64 3, .int .i64 v, .int .u64 cy, .int .u64 k, .bool won] 61) (blkC w0.heap.size (w.heap.size + 1 + 1) #[.int .i64 0, .int .i64 0, .int .u64 0, .int .u64 0, .bool false] 61)
  have hb1 := G1.get (cs.length + 1) g1
  have hb2 := G1.get (cs.length + 2) g2
  obtain ⟨b0, b1, b2, b3, b4, fb⟩ := row5 hb1
  obtain ⟨r0, r1, r2, r3, r4, fr⟩ := row5 hb2
  clear G0
  go_wp2_with fail
  refine (RSwap_h G1 i (get_app (get_app (get_app HI.out _) _) _) (c.nodeAt v 2) k cy hl).mono ?_
  rw [← HB.out]
  rintro e w2 ⟨mv', rfl, G2⟩
  have hil := (List.getElem?_eq_some_iff.1 HI.out).1
  have sa : ∀ (x : Chunk w0.heap.size) (a b d : Chunk w0.heap.size), (cs ++ [a] ++ [b] ++ [d]).set i x = cs.set i x ++ [a] ++ [b] ++ [d] := by
    intro x a b d
    rw [List.set_append_left _ _ (by simp; omega), List.set_append_left _ _ (by simp; omega), List.set_append_left _ _ hil]
  rw [sa] at G2
  clear b0 b1 b2 b3 b4 fb r0 r1 r2 r3 r4 fr g1 g2 hb1 hb2 sa
  obtain ⟨cs', hcs⟩ : ∃ cs', cs' = cs.set i (slC _ .u64 mv' (mswap l (c.nodeAt v 2) k cy)) := ⟨_, rfl⟩
  rw [← hcs] at G2
  have hci : cs'[i]? = some (slC _ .u64 mv' (mswap l (c.nodeAt v 2) k cy)) := by rw [hcs]; exact lset_same HI.out _
  have HCS := Lib.hid hcs
  clear hcs
  obtain ⟨na, nc, rfl, -, -⟩ := G2.sl i (get_app (get_app (get_app hci _) _) _)
  clear hci
  obtain ⟨b0, b1, b2, b3, b4, fb⟩ := row5 (G2.get (cs'.length + 1) (get3 cs' _ _ _).1)
  obtain ⟨r0, r1, r2, r3, r4, fr⟩ := row5 (G2.get (cs'.length + 2) (get3 cs' _ _ _).2)
  have gm : ∀ (x y a b : Chunk w0.heap.size), ((cs' ++ [a] ++ [x] ++ [b]).set (cs'.length + 1) y) = cs' ++ [a] ++ [y] ++ [b] := by
    intro x y a b
    have e : cs'.length + 1 = (cs' ++ [a]).length := by simp
    rw [List.set_append_left _ _ (by simp), e, set_last]
  have gl : ∀ (x y : Chunk w0.heap.size) (a b : Chunk w0.heap.size), ((cs' ++ [a] ++ [b] ++ [x]).set (cs'.length + 2) y) = cs' ++ [a] ++ [b] ++ [y] := by
    intro x y a b
    have e : cs'.length + 2 = (cs' ++ [a] ++ [b]).length := by simp
    rw [e, set_last]
  cases B with
  | true =>
    have S0 := G2.blkSet _ (get3 cs' _ _ _).1 4 (.bool true)
    rw [gm] at S0
    have S0' := S0.blkSet _ (get3 cs' _ _ _).1 0 (.int .i64 4)
    rw [gm] at S0'
    have S0'' := S0'.blkSet _ (get3 cs' _ _ _).1 0 (.int .i64 0)
    rw [gm] at S0''
    obtain ⟨W, HW, eW⟩ := S0''.name
    go_wp2_with fail
    rw [← eW.out]
    clear S0 S0' S0'' eW G2 b0 b1 b2 b3 b4 fb r0 r1 r2 r3 r4 fr
    obtain ⟨b0, b1, b2, b3, b4, fb⟩ := row5 (HW.get (cs'.length + 1) (get3 cs' _ _ _).1)
    obtain ⟨r0, r1, r2, r3, r4, fr⟩ := row5 (HW.get (cs'.length + 2) (get3 cs' _ _ _).2)
    have S1 := HW.blkSet _ (get3 cs' _ _ _).2 0 (.int .i64 0)
    rw [gl] at S1
    have S2 := S1.blkSet _ (get3 cs' _ _ _).2 1 (.int .i64 v)
    rw [gl] at S2
    have S3 := S2.blkSet _ (get3 cs' _ _ _).2 2 (.int .u64 cy)
    rw [gl] at S3
    have S4 := S3.blkSet _ (get3 cs' _ _ _).2 3 (.int .u64 k)
    rw [gl] at S4
    have S5 := S4.blkSet _ (get3 cs' _ _ _).2 4 (.bool true)
    rw [gl] at S5
    clear S1 S2 S3 S4
    go_region
    all_goals (go_wp2_with fail)
    obtain ⟨r0, r1, r2, r3, r4, fr⟩ := row5 (S5.get _ (get3 cs' _ _ _).2)
    refine bodyPost_ret (v := .tuple #[.slice na (mswap l (c.nodeAt v 2) k cy).length nc, .agg #[.int .i64 0, .int .i64 v, .int .u64 cy, .int .u64 k, .bool true]]) (by simp [results, Try.results26, go_sem, r0, r1, r2, r3, r4]) rfl ⟨_, rfl, ?_⟩
    rw [← HCS.out]
    exact S5.drew.front.front.front
  | false =>
    have S0 := G2.blkSet _ (get3 cs' _ _ _).1 4 (.bool false)
    rw [gm] at S0
    have S0' := S0.blkSet _ (get3 cs' _ _ _).1 0 (.int .i64 4)
    rw [gm] at S0'
    obtain ⟨W, HW, eW⟩ := S0'.name
    go_wp2_with fail
    rw [← eW.out]
    clear S0 S0' eW G2 b0 b1 b2 b3 b4 fb r0 r1 r2 r3 r4 fr
    obtain ⟨b0, b1, b2, b3, b4, fb⟩ := row5 (HW.get (cs'.length + 1) (get3 cs' _ _ _).1)
    obtain ⟨r0, r1, r2, r3, r4, fr⟩ := row5 (HW.get (cs'.length + 2) (get3 cs' _ _ _).2)
    have S1 := HW.blkSet _ (get3 cs' _ _ _).2 0 (.int .i64 4)
    rw [gl] at S1
    have S2 := S1.blkSet _ (get3 cs' _ _ _).2 1 (.int .i64 v)
    rw [gl] at S2
    have S3 := S2.blkSet _ (get3 cs' _ _ _).2 2 (.int .u64 cy)
    rw [gl] at S3
    have S4 := S3.blkSet _ (get3 cs' _ _ _).2 3 (.int .u64 k)
    rw [gl] at S4
    have S5 := S4.blkSet _ (get3 cs' _ _ _).2 4 (.bool false)
    rw [gl] at S5
    clear S1 S2 S3 S4
    go_region
    all_goals (go_wp2_with fail)
    obtain ⟨r0, r1, r2, r3, r4, fr⟩ := row5 (S5.get _ (get3 cs' _ _ _).2)
    refine bodyPost_ret (v := .tuple #[.slice na (mswap l (c.nodeAt v 2) k cy).length nc, .agg #[.int .i64 4, .int .i64 v, .int .u64 cy, .int .u64 k, .bool false]]) (by simp [results, Try.results26, go_sem, r0, r1, r2, r3, r4]) rfl ⟨_, rfl, ?_⟩
    rw [← HCS.out]
    exact S5.drew.front.front.front

set_option maxRecDepth 100000 in
set_option maxHeartbeats 4000000 in
theorem rstep1 {w0 w : World} {cs : List (Chunk w0.heap.size)} (H : Has w0 w cs) (i q : Nat) {mv lv : Value} {l : List Int} {c : Cfg} (n v cy k : Int) (won : Bool) (hi : cs[i]? = some (slC _ .u64 mv l)) (hq : cs[q]? = some (ownT _ lv c.things)) (h : CfgOk c) :
    Calls Try.prog 26 #[.agg #[lv, .int .i64 n], mv, clV ⟨v, cy, k, won, 1⟩] w fun e w' => e = .returned (.tuple #[mv, clV ⟨v, cy, mld l (c.nodeAt v 2), won, clPc (decide (cy ≤ mld l (c.nodeAt v 2))) 2⟩]) ∧ Has w0 w' cs := by
  obtain ⟨K, hK⟩ : ∃ K, K = mld l (c.nodeAt v 2) := ⟨_, rfl⟩
  rw [← hK]
  have HK := Lib.hid hK
  clear hK
  have hat : c.atOf ⟨16, v, 0⟩ = c.nodeAt v 2 := atOfN 16 v 0 (by omega) (by omega)
  have HAT := Lib.hid hat
  clear hat
  obtain ⟨la, lc, rfl⟩ := own_is (H.get q hq)
  obtain ⟨ma, mc, rfl, -, -⟩ := H.sl i hi
  have HQ := Lib.hid hq
  have HI := Lib.hid hi
  clear hq hi
  unfold clV
  go_enter Try.func26, Try.ntmps26
  have G0 := ((H.blkNew #[.slice la c.things.length lc, .int .i64 n] 56).blkNew #[.int .i64 1, .int .i64 v, .int .u64 cy, .int .u64 k, .bool won] 61).blkNew #[.int .i64 0, .int .i64 0, .int .u64 0, .int .u64 0, .bool false] 61
  have z1 : ∀ (w : World) o, (w.alloc o).heap.size = w.heap.size + 1 := fun w o => by simp
  simp only [z1] at G0
  clear z1
  go_wp2_with fail
  refine (RAt11_h G0 q n (get_app (get_app (get_app HQ.out _) _) _) h ⟨16, v, 0⟩ ⟨by dsimp only; omega, (fun r => by exfalso; have : (16 : Int) ≤ 5 := r; omega), fun _ => rfl⟩).mono ?_
  rw [HAT.out]
  rintro e w1 ⟨rfl, G1⟩
  obtain ⟨g1, g2⟩ := get3 cs (blkC w0.heap.size w.heap.size #[.slice la c.things.length lc, .int .i64 n] 56) (blkC w0.heap.size (w.heap.size + 1) #[.int .i64 1, .int .i64 v, .int .u64 cy, .int .u64 k, .bool won] 61) (blkC w0.heap.size (w.heap.size + 1 + 1) #[.int .i64 0, .int .i64 0, .int .u64 0, .int .u64 0, .bool false] 61)
  have hb1 := G1.get (cs.length + 1) g1
  have hb2 := G1.get (cs.length + 2) g2
  obtain ⟨b0, b1, b2, b3, b4, fb⟩ := row5 hb1
  obtain ⟨r0, r1, r2, r3, r4, fr⟩ := row5 hb2
  clear G0
  go_wp2_with fail
  refine (RLoad_h G1 i (get_app (get_app (get_app HI.out _) _) _) (c.nodeAt v 2)).mono ?_
  rw [← HK.out]
  rintro e w2 ⟨rfl, rfl⟩
  clear g1 g2
  have gm : ∀ (x y a b : Chunk w0.heap.size), ((cs ++ [a] ++ [x] ++ [b]).set (cs.length + 1) y) = cs ++ [a] ++ [y] ++ [b] := by
    intro x y a b
    have e : cs.length + 1 = (cs ++ [a]).length := by simp
    rw [List.set_append_left _ _ (by simp), e, set_last]
  have gl : ∀ (x y : Chunk w0.heap.size) (a b : Chunk w0.heap.size), ((cs ++ [a] ++ [b] ++ [x]).set (cs.length + 2) y) = cs ++ [a] ++ [b] ++ [y] := by
    intro x y a b
    have e : cs.length + 2 = (cs ++ [a] ++ [b]).length := by simp
    rw [e, set_last]
  by_cases hge : cy ≤ K
  · have PCE := Lib.hid (show clPc (decide (cy ≤ K)) 2 = 0 by simp [clPc, hge])
    have S0 := G1.blkSet _ (get3 cs _ _ _).1 3 (.int .u64 K)
    rw [gm] at S0
    have S0' := S0.blkSet _ (get3 cs _ _ _).1 0 (.int .i64 2)
    rw [gm] at S0'
    have S0'' := S0'.blkSet _ (get3 cs _ _ _).1 0 (.int .i64 0)
    rw [gm] at S0''
    obtain ⟨W, HW, eW⟩ := S0''.name
    go_wp2_with fail
    rw [← eW.out]
    clear S0 S0' S0'' eW G1 hb1 hb2 b0 b1 b2 b3 b4 fb r0 r1 r2 r3 r4 fr
    obtain ⟨b0, b1, b2, b3, b4, fb⟩ := row5 (HW.get (cs.length + 1) (get3 cs _ _ _).1)
    obtain ⟨r0, r1, r2, r3, r4, fr⟩ := row5 (HW.get (cs.length + 2) (get3 cs _ _ _).2)
    have S1 := HW.blkSet _ (get3 cs _ _ _).2 0 (.int .i64 0)
    rw [gl] at S1
    have S2 := S1.blkSet _ (get3 cs _ _ _).2 1 (.int .i64 v)
    rw [gl] at S2
    have S3 := S2.blkSet _ (get3 cs _ _ _).2 2 (.int .u64 cy)
    rw [gl] at S3
    have S4 := S3.blkSet _ (get3 cs _ _ _).2 3 (.int .u64 K)
    rw [gl] at S4
    have S5 := S4.blkSet _ (get3 cs _ _ _).2 4 (.bool won)
    rw [gl] at S5
    clear S1 S2 S3 S4
    go_region
    all_goals (go_wp2_with fail)
    obtain ⟨r0, r1, r2, r3, r4, fr⟩ := row5 (S5.get _ (get3 cs _ _ _).2)
    refine bodyPost_ret (v := .tuple #[.slice ma l.length mc, .agg #[.int .i64 0, .int .i64 v, .int .u64 cy, .int .u64 K, .bool won]]) (by simp [results, Try.results26, go_sem, r0, r1, r2, r3, r4]) rfl ⟨by rw [PCE.out]; rfl, ?_⟩
    exact S5.drew.front.front.front
  · have PCE := Lib.hid (show clPc (decide (cy ≤ K)) 2 = 2 by simp [clPc, hge])
    have S0 := G1.blkSet _ (get3 cs _ _ _).1 3 (.int .u64 K)
    rw [gm] at S0
    have S0' := S0.blkSet _ (get3 cs _ _ _).1 0 (.int .i64 2)
    rw [gm] at S0'
    obtain ⟨W, HW, eW⟩ := S0'.name
    go_wp2_with fail
    rw [← eW.out]
    clear S0 S0' eW G1 hb1 hb2 b0 b1 b2 b3 b4 fb r0 r1 r2 r3 r4 fr
    obtain ⟨b0, b1, b2, b3, b4, fb⟩ := row5 (HW.get (cs.length + 1) (get3 cs _ _ _).1)
    obtain ⟨r0, r1, r2, r3, r4, fr⟩ := row5 (HW.get (cs.length + 2) (get3 cs _ _ _).2)
    have S1 := HW.blkSet _ (get3 cs _ _ _).2 0 (.int .i64 2)
    rw [gl] at S1
    have S2 := S1.blkSet _ (get3 cs _ _ _).2 1 (.int .i64 v)
    rw [gl] at S2
    have S3 := S2.blkSet _ (get3 cs _ _ _).2 2 (.int .u64 cy)
    rw [gl] at S3
    have S4 := S3.blkSet _ (get3 cs _ _ _).2 3 (.int .u64 K)
    rw [gl] at S4
    have S5 := S4.blkSet _ (get3 cs _ _ _).2 4 (.bool won)
    rw [gl] at S5
    clear S1 S2 S3 S4
    go_region
    all_goals (go_wp2_with fail)
    obtain ⟨r0, r1, r2, r3, r4, fr⟩ := row5 (S5.get _ (get3 cs _ _ _).2)
    refine bodyPost_ret (v := .tuple #[.slice ma l.length mc, .agg #[.int .i64 2, .int .i64 v, .int .u64 cy, .int .u64 K, .bool won]]) (by simp [results, Try.results26, go_sem, r0, r1, r2, r3, r4]) rfl ⟨by rw [PCE.out]; rfl, ?_⟩
    exact S5.drew.front.front.front

/-- One step of the reference's machine. -/
theorem RStep12_h {w0 w : World} {cs : List (Chunk w0.heap.size)} (H : Has w0 w cs) (i q : Nat) {mv lv : Value} {l : List Int} {c : Cfg} (n : Int) (m : Cl) (hm : m.pc ≤ 4) (hi : cs[i]? = some (slC _ .u64 mv l)) (hq : cs[q]? = some (ownT _ lv c.things)) (h : CfgOk c) (hl : l.length < 1000000000000) :
    Calls Try.prog 26 #[.agg #[lv, .int .i64 n], mv, clV m] w fun e w' => ∃ mv', e = .returned (.tuple #[mv', clV (clStep c l m).2]) ∧ Has w0 w' (cs.set i (slC _ .u64 mv' (clStep c l m).1)) := by
  obtain ⟨v, cy, k, won, pc⟩ := m
  dsimp only at hm
  have hpc : pc = 0 ∨ pc = 1 ∨ pc = 2 ∨ pc = 3 ∨ pc = 4 := by omega
  rcases hpc with rfl | rfl | rfl | rfl | rfl
  · refine (rstep0 H i q n v cy k won hi hq h).mono fun e w' ⟨he, hh⟩ => ⟨mv, he, ?_⟩
    show Has w0 w' (cs.set i (slC _ .u64 mv l))
    rw [lset_is hi]; exact hh
  · refine (rstep1 H i q n v cy k won hi hq h).mono fun e w' ⟨he, hh⟩ => ⟨mv, he, ?_⟩
    show Has w0 w' (cs.set i (slC _ .u64 mv l))
    rw [lset_is hi]; exact hh
  · exact (rstep2 H i q n v cy k won hi hq h hl).mono fun e w' hh => hh
  · exact (rstep3 H i q n v cy k won hi hq h hl).mono fun e w' hh => hh
  · exact (rstep4 H i q n v cy k won hi hq h hl).mono fun e w' hh => hh

end Go.Proofs.Ytfcookfocihjlaa
