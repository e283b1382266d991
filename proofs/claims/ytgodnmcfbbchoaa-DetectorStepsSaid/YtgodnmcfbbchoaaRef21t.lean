/- The reference's machine of layer 21: Step. -/
import Derived.Test.YtgodnmcfbbchoaaRef21s
import Derived.Test.YtgodnmcfbbchoaaRef16p
set_option linter.unusedVariables false
set_option linter.unusedSimpArgs false
set_option linter.unusedSectionVars false
namespace Go.Proofs.Ytgodnmcfbbchoaa
open Go.ChangeShapes Go.WideShapes Go.ChangeAt Go.RowKit

theorem lset_is21 {α : Type} {l : List α} {j : Nat} {x : α} (h : l[j]? = some x) : l.set j x = l := by
  obtain ⟨hl, e⟩ := List.getElem?_eq_some_iff.1 h
  subst e
  exact List.set_getElem_self hl
theorem rsaidV {w0 w : World} {cs : List (Chunk w0.heap.size)} (H : Has w0 w cs) (i q : Nat) {mv lv : Value} {l : List Int} {c : Cfg} (n : Int) (d : Nat) (dv cy t least : Int) (hdv : (d : Int) = dv) (hi : cs[i]? = some (slC _ .u64 mv l)) (hq : cs[q]? = some (ownT _ lv c.things)) (h : CfgOk c) (hd : d ≤ 13) (t0 : 0 ≤ t) (t1 : t < c.mu) :
    Calls Try.prog 55 #[.agg #[lv, .int .i64 n], cfgV c, mv, .agg #[.int .i64 dv, .int .u64 cy, .int .i64 t, .int .i64 0, .int .i64 0, .int .i64 0, .int .i64 0, .int .i64 0], .int .u64 least] w fun e w' => e = .returned (.agg #[.int .i64 (dtSaid c l d cy t least).doing, .int .u64 (dtSaid c l d cy t least).cy, .int .i64 (dtSaid c l d cy t least).turn, .int .i64 (dtSaid c l d cy t least).ek, .int .i64 0, .int .i64 (dtSaid c l d cy t least).ea, .int .i64 (dtSaid c l d cy t least).eb, .int .i64 0]) ∧ Has w0 w' cs := by
  subst hdv
  exact rsaid H i q n d cy t least hi hq h hd t0 t1
theorem rtellV {w0 w : World} {cs : List (Chunk w0.heap.size)} (H : Has w0 w cs) (i : Nat) {mv : Value} {l : List Int} (d : Nat) (dv ev cy t p : Int) (hdv : (d : Int) = dv) (hev : (((d + 1) % 14 : Nat) : Int) = ev) (hi : cs[i]? = some (slC _ .u64 mv l)) (hl : l.length < 1000000000000) (hd : d ≤ 13) (c0 : 0 ≤ cy) (c1 : cy < 1000000) :
    Calls Try.prog 54 #[mv, .agg #[.int .i64 dv, .int .u64 cy, .int .i64 t, .int .i64 0, .int .i64 0, .int .i64 0, .int .i64 0, .int .i64 0], .int .i64 p] w fun e w' => ∃ ma nl mc, e = .returned (.tuple #[.slice ma nl mc, .agg #[.int .i64 ev, .int .u64 cy, .int .i64 0, .int .i64 7, .int .i64 0, .int .i64 p, .int .i64 cy, .int .i64 0]]) ∧ Has w0 w' (cs.set i (slC _ .u64 (.slice ma nl mc) (mput l 0 (wPhase cy p)))) := by
  subst hdv hev
  have HI := Lib.hid hi
  refine (rtell H i ⟨d, cy, t, 0, 0, 0⟩ p hi hl hd c0 c1).mono ?_
  rintro e w' ⟨mv', rfl, G⟩
  obtain ⟨na, nc, rfl, -, -⟩ := G.sl i (lset21 HI.out _)
  exact ⟨_, _, _, rfl, G⟩

theorem RPair0 (cy : Int) (h0 : 0 ≤ cy) (h1 : cy < 4294967296) (w : World) : Calls Try.prog 57 #[.int .u32 cy, .int .u32 0] w fun e w' => e = .returned (.int .u64 (cy * 4294967296)) ∧ ∃ n, w' = w.drewN n := by
  have := RPair_c cy 0 h0 h1 (by decide) (by decide) w
  rw [Int.add_zero] at this
  exact this

section
variable {w0 w : World} {cs : List (Chunk w0.heap.size)} (H : Has w0 w cs) (i q : Nat) {mv lv : Value} {l : List Int} {c : Cfg} (n : Int) (cy t ek ea eb dr : Int) (hi : cs[i]? = some (slC _ .u64 mv l)) (hq : cs[q]? = some (ownT _ lv c.things)) (h : CfgOk c) (hl : l.length < 1000000000000)
include H hi hq h hl
set_option maxRecDepth 100000 in
set_option maxHeartbeats 4000000 in
theorem rst1 (t0 : 0 ≤ t) (t1 : t < c.mu) (c0 : 1 ≤ cy) (c1 : cy < 999999) :
    Calls Try.prog 31 #[.agg #[lv, .int .i64 n], cfgV c, mv, rdV ⟨1, cy, t, ek, ea, eb⟩, .int .i64 dr] w fun e w' => e = .returned (.tuple #[mv, rdV (dtSaid c l 1 cy t (3 * cy - 2))]) ∧ Has w0 w' cs := by
  obtain ⟨A, hA⟩ : ∃ A, A = dtSaid c l 1 cy t (3 * cy - 2) := ⟨_, rfl⟩
  rw [← hA]
  have HA := Lib.hid hA
  clear hA
  obtain ⟨la, lc, rfl⟩ := own_is (H.get q hq)
  obtain ⟨ma, mc, rfl, -, -⟩ := H.sl i hi
  have HQ := Lib.hid hq
  have HI := Lib.hid hi
  have hmu := h.mu
  clear hi hq
  unfold rdV cfgV cfgCells
  go_enter Try.func31, Try.ntmps31
  have G0 := (((H.blkNew #[.slice la c.things.length lc, .int .i64 n] 59).blkNew (cfgCells c) 61).blkNew #[.int .i64 1, .int .u64 cy, .int .i64 t, .int .i64 0, .int .i64 0, .int .i64 0, .int .i64 0, .int .i64 0] 64).blkNew #[.int .i64 0, .int .u64 0, .int .i64 0, .int .i64 0, .int .i64 0, .int .i64 0, .int .i64 0, .int .i64 0] 64
  have z1 : ∀ (w : World) o, (w.alloc o).heap.size = w.heap.size + 1 := fun w o => by simp
  simp only [z1] at G0
  clear z1
  go_wp2_with fail
  refine (rsaidV G0 i q n 1 1 cy t (3 * cy - 2) rfl (get_app (get_app (get_app (get_app HI.out _) _) _) _) (get_app (get_app (get_app (get_app HQ.out _) _) _) _) h (by decide) t0 t1).mono ?_
  rw [← HA.out]
  rintro e w1 ⟨rfl, G1⟩
  obtain ⟨B, hB⟩ : ∃ B, B = w.heap.size + 1 + 1 := ⟨_, rfl⟩
  obtain ⟨B1, hB1⟩ : ∃ B1, B1 = w.heap.size + 1 + 1 + 1 := ⟨_, rfl⟩
  obtain ⟨cs', hcs⟩ : ∃ cs', cs' = cs ++ [blkC _ w.heap.size #[.slice la c.things.length lc, .int .i64 n] 59] ++ [blkC _ (w.heap.size + 1) (cfgCells c) 61] := ⟨_, rfl⟩
  rw [← hB1, ← hB, ← hcs] at G1
  rw [← hB1, ← hB]
  have HCS := Lib.hid hcs
  have HBB : Hid (B ≠ B1) := Lib.hid (by omega)
  clear G0 hB hB1 hcs
  obtain ⟨b0, b1, b2, b3, b4, b5, b6, b7, fb⟩ := row8 (G1.get cs'.length (get_l2 cs' _ _).1)
  obtain ⟨r0, r1, r2, r3, r4, r5, r6, r7, fr⟩ := row8 (G1.get (cs'.length + 1) (get_l2 cs' _ _).2)
  have S0 := G1
  have q0 := S0.blkSet _ (get_l2 cs' _ _).2 0 (.int .i64 A.doing)
  rw [set_l21] at q0
  have S1 : Has w0 _ (cs' ++ [blkC _ B #[.int .i64 1, .int .u64 cy, .int .i64 t, .int .i64 0, .int .i64 0, .int .i64 0, .int .i64 0, .int .i64 0] 64] ++ [blkC _ B1 #[.int .i64 A.doing, .int .u64 0, .int .i64 0, .int .i64 0, .int .i64 0, .int .i64 0, .int .i64 0, .int .i64 0] 64]) := q0
  clear q0 S0
  have q1 := S1.blkSet _ (get_l2 cs' _ _).2 1 (.int .u64 A.cy)
  rw [set_l21] at q1
  have S2 : Has w0 _ (cs' ++ [blkC _ B #[.int .i64 1, .int .u64 cy, .int .i64 t, .int .i64 0, .int .i64 0, .int .i64 0, .int .i64 0, .int .i64 0] 64] ++ [blkC _ B1 #[.int .i64 A.doing, .int .u64 A.cy, .int .i64 0, .int .i64 0, .int .i64 0, .int .i64 0, .int .i64 0, .int .i64 0] 64]) := q1
  clear q1 S1
  have q2 := S2.blkSet _ (get_l2 cs' _ _).2 2 (.int .i64 A.turn)
  rw [set_l21] at q2
  have S3 : Has w0 _ (cs' ++ [blkC _ B #[.int .i64 1, .int .u64 cy, .int .i64 t, .int .i64 0, .int .i64 0, .int .i64 0, .int .i64 0, .int .i64 0] 64] ++ [blkC _ B1 #[.int .i64 A.doing, .int .u64 A.cy, .int .i64 A.turn, .int .i64 0, .int .i64 0, .int .i64 0, .int .i64 0, .int .i64 0] 64]) := q2
  clear q2 S2
  have q3 := S3.blkSet _ (get_l2 cs' _ _).2 3 (.int .i64 A.ek)
  rw [set_l21] at q3
  have S4 : Has w0 _ (cs' ++ [blkC _ B #[.int .i64 1, .int .u64 cy, .int .i64 t, .int .i64 0, .int .i64 0, .int .i64 0, .int .i64 0, .int .i64 0] 64] ++ [blkC _ B1 #[.int .i64 A.doing, .int .u64 A.cy, .int .i64 A.turn, .int .i64 A.ek, .int .i64 0, .int .i64 0, .int .i64 0, .int .i64 0] 64]) := q3
  clear q3 S3
  have q4 := S4.blkSet _ (get_l2 cs' _ _).2 4 (.int .i64 0)
  rw [set_l21] at q4
  have S5 : Has w0 _ (cs' ++ [blkC _ B #[.int .i64 1, .int .u64 cy, .int .i64 t, .int .i64 0, .int .i64 0, .int .i64 0, .int .i64 0, .int .i64 0] 64] ++ [blkC _ B1 #[.int .i64 A.doing, .int .u64 A.cy, .int .i64 A.turn, .int .i64 A.ek, .int .i64 0, .int .i64 0, .int .i64 0, .int .i64 0] 64]) := q4
  clear q4 S4
  have q5 := S5.blkSet _ (get_l2 cs' _ _).2 5 (.int .i64 A.ea)
  rw [set_l21] at q5
  have S6 : Has w0 _ (cs' ++ [blkC _ B #[.int .i64 1, .int .u64 cy, .int .i64 t, .int .i64 0, .int .i64 0, .int .i64 0, .int .i64 0, .int .i64 0] 64] ++ [blkC _ B1 #[.int .i64 A.doing, .int .u64 A.cy, .int .i64 A.turn, .int .i64 A.ek, .int .i64 0, .int .i64 A.ea, .int .i64 0, .int .i64 0] 64]) := q5
  clear q5 S5
  have q6 := S6.blkSet _ (get_l2 cs' _ _).2 6 (.int .i64 A.eb)
  rw [set_l21] at q6
  have S7 : Has w0 _ (cs' ++ [blkC _ B #[.int .i64 1, .int .u64 cy, .int .i64 t, .int .i64 0, .int .i64 0, .int .i64 0, .int .i64 0, .int .i64 0] 64] ++ [blkC _ B1 #[.int .i64 A.doing, .int .u64 A.cy, .int .i64 A.turn, .int .i64 A.ek, .int .i64 0, .int .i64 A.ea, .int .i64 A.eb, .int .i64 0] 64]) := q6
  clear q6 S6
  have q7 := S7.blkSet _ (get_l2 cs' _ _).2 7 (.int .i64 0)
  rw [set_l21] at q7
  have S8 : Has w0 _ (cs' ++ [blkC _ B #[.int .i64 1, .int .u64 cy, .int .i64 t, .int .i64 0, .int .i64 0, .int .i64 0, .int .i64 0, .int .i64 0] 64] ++ [blkC _ B1 #[.int .i64 A.doing, .int .u64 A.cy, .int .i64 A.turn, .int .i64 A.ek, .int .i64 0, .int .i64 A.ea, .int .i64 A.eb, .int .i64 0] 64]) := q7
  clear q7 S7
  go_wp2_with fail
  obtain ⟨r0, r1, r2, r3, r4, r5, r6, r7, fr⟩ := row8 (S8.get (cs'.length + 1) (get_l2 cs' _ _).2)
  refine bodyPost_ret (v := .tuple #[.slice ma l.length mc, .agg #[.int .i64 A.doing, .int .u64 A.cy, .int .i64 A.turn, .int .i64 A.ek, .int .i64 0, .int .i64 A.ea, .int .i64 A.eb, .int .i64 0]]) (by simp [results, Try.results31, go_sem, r0, r1, r2, r3, r4, r5, r6, r7]) rfl ⟨rfl, ?_⟩
  have S9 := S8.front.front
  rw [HCS.out] at S9
  exact S9.front.front

set_option maxRecDepth 100000 in
set_option maxHeartbeats 4000000 in
theorem rst3 (t0 : 0 ≤ t) (t1 : t < c.mu) (c0 : 1 ≤ cy) (c1 : cy < 999999) :
    Calls Try.prog 31 #[.agg #[lv, .int .i64 n], cfgV c, mv, rdV ⟨3, cy, t, ek, ea, eb⟩, .int .i64 dr] w fun e w' => e = .returned (.tuple #[mv, rdV (dtSaid c l 3 cy t (3 * cy - 1))]) ∧ Has w0 w' cs := by
  obtain ⟨A, hA⟩ : ∃ A, A = dtSaid c l 3 cy t (3 * cy - 1) := ⟨_, rfl⟩
  rw [← hA]
  have HA := Lib.hid hA
  clear hA
  obtain ⟨la, lc, rfl⟩ := own_is (H.get q hq)
  obtain ⟨ma, mc, rfl, -, -⟩ := H.sl i hi
  have HQ := Lib.hid hq
  have HI := Lib.hid hi
  have hmu := h.mu
  clear hi hq
  unfold rdV cfgV cfgCells
  go_enter Try.func31, Try.ntmps31
  have G0 := (((H.blkNew #[.slice la c.things.length lc, .int .i64 n] 59).blkNew (cfgCells c) 61).blkNew #[.int .i64 3, .int .u64 cy, .int .i64 t, .int .i64 0, .int .i64 0, .int .i64 0, .int .i64 0, .int .i64 0] 64).blkNew #[.int .i64 0, .int .u64 0, .int .i64 0, .int .i64 0, .int .i64 0, .int .i64 0, .int .i64 0, .int .i64 0] 64
  have z1 : ∀ (w : World) o, (w.alloc o).heap.size = w.heap.size + 1 := fun w o => by simp
  simp only [z1] at G0
  clear z1
  go_wp2_with fail
  refine (rsaidV G0 i q n 3 3 cy t (3 * cy - 1) rfl (get_app (get_app (get_app (get_app HI.out _) _) _) _) (get_app (get_app (get_app (get_app HQ.out _) _) _) _) h (by decide) t0 t1).mono ?_
  rw [← HA.out]
  rintro e w1 ⟨rfl, G1⟩
  obtain ⟨B, hB⟩ : ∃ B, B = w.heap.size + 1 + 1 := ⟨_, rfl⟩
  obtain ⟨B1, hB1⟩ : ∃ B1, B1 = w.heap.size + 1 + 1 + 1 := ⟨_, rfl⟩
  obtain ⟨cs', hcs⟩ : ∃ cs', cs' = cs ++ [blkC _ w.heap.size #[.slice la c.things.length lc, .int .i64 n] 59] ++ [blkC _ (w.heap.size + 1) (cfgCells c) 61] := ⟨_, rfl⟩
  rw [← hB1, ← hB, ← hcs] at G1
  rw [← hB1, ← hB]
  have HCS := Lib.hid hcs
  have HBB : Hid (B ≠ B1) := Lib.hid (by omega)
  clear G0 hB hB1 hcs
  obtain ⟨b0, b1, b2, b3, b4, b5, b6, b7, fb⟩ := row8 (G1.get cs'.length (get_l2 cs' _ _).1)
  obtain ⟨r0, r1, r2, r3, r4, r5, r6, r7, fr⟩ := row8 (G1.get (cs'.length + 1) (get_l2 cs' _ _).2)
  have S0 := G1
  have q0 := S0.blkSet _ (get_l2 cs' _ _).2 0 (.int .i64 A.doing)
  rw [set_l21] at q0
  have S1 : Has w0 _ (cs' ++ [blkC _ B #[.int .i64 3, .int .u64 cy, .int .i64 t, .int .i64 0, .int .i64 0, .int .i64 0, .int .i64 0, .int .i64 0] 64] ++ [blkC _ B1 #[.int .i64 A.doing, .int .u64 0, .int .i64 0, .int .i64 0, .int .i64 0, .int .i64 0, .int .i64 0, .int .i64 0] 64]) := q0
  clear q0 S0
  have q1 := S1.blkSet _ (get_l2 cs' _ _).2 1 (.int .u64 A.cy)
  rw [set_l21] at q1
  have S2 : Has w0 _ (cs' ++ [blkC _ B #[.int .i64 3, .int .u64 cy, .int .i64 t, .int .i64 0, .int .i64 0, .int .i64 0, .int .i64 0, .int .i64 0] 64] ++ [blkC _ B1 #[.int .i64 A.doing, .int .u64 A.cy, .int .i64 0, .int .i64 0, .int .i64 0, .int .i64 0, .int .i64 0, .int .i64 0] 64]) := q1
  clear q1 S1
  have q2 := S2.blkSet _ (get_l2 cs' _ _).2 2 (.int .i64 A.turn)
  rw [set_l21] at q2
  have S3 : Has w0 _ (cs' ++ [blkC _ B #[.int .i64 3, .int .u64 cy, .int .i64 t, .int .i64 0, .int .i64 0, .int .i64 0, .int .i64 0, .int .i64 0] 64] ++ [blkC _ B1 #[.int .i64 A.doing, .int .u64 A.cy, .int .i64 A.turn, .int .i64 0, .int .i64 0, .int .i64 0, .int .i64 0, .int .i64 0] 64]) := q2
  clear q2 S2
  have q3 := S3.blkSet _ (get_l2 cs' _ _).2 3 (.int .i64 A.ek)
  rw [set_l21] at q3
  have S4 : Has w0 _ (cs' ++ [blkC _ B #[.int .i64 3, .int .u64 cy, .int .i64 t, .int .i64 0, .int .i64 0, .int .i64 0, .int .i64 0, .int .i64 0] 64] ++ [blkC _ B1 #[.int .i64 A.doing, .int .u64 A.cy, .int .i64 A.turn, .int .i64 A.ek, .int .i64 0, .int .i64 0, .int .i64 0, .int .i64 0] 64]) := q3
  clear q3 S3
  have q4 := S4.blkSet _ (get_l2 cs' _ _).2 4 (.int .i64 0)
  rw [set_l21] at q4
  have S5 : Has w0 _ (cs' ++ [blkC _ B #[.int .i64 3, .int .u64 cy, .int .i64 t, .int .i64 0, .int .i64 0, .int .i64 0, .int .i64 0, .int .i64 0] 64] ++ [blkC _ B1 #[.int .i64 A.doing, .int .u64 A.cy, .int .i64 A.turn, .int .i64 A.ek, .int .i64 0, .int .i64 0, .int .i64 0, .int .i64 0] 64]) := q4
  clear q4 S4
  have q5 := S5.blkSet _ (get_l2 cs' _ _).2 5 (.int .i64 A.ea)
  rw [set_l21] at q5
  have S6 : Has w0 _ (cs' ++ [blkC _ B #[.int .i64 3, .int .u64 cy, .int .i64 t, .int .i64 0, .int .i64 0, .int .i64 0, .int .i64 0, .int .i64 0] 64] ++ [blkC _ B1 #[.int .i64 A.doing, .int .u64 A.cy, .int .i64 A.turn, .int .i64 A.ek, .int .i64 0, .int .i64 A.ea, .int .i64 0, .int .i64 0] 64]) := q5
  clear q5 S5
  have q6 := S6.blkSet _ (get_l2 cs' _ _).2 6 (.int .i64 A.eb)
  rw [set_l21] at q6
  have S7 : Has w0 _ (cs' ++ [blkC _ B #[.int .i64 3, .int .u64 cy, .int .i64 t, .int .i64 0, .int .i64 0, .int .i64 0, .int .i64 0, .int .i64 0] 64] ++ [blkC _ B1 #[.int .i64 A.doing, .int .u64 A.cy, .int .i64 A.turn, .int .i64 A.ek, .int .i64 0, .int .i64 A.ea, .int .i64 A.eb, .int .i64 0] 64]) := q6
  clear q6 S6
  have q7 := S7.blkSet _ (get_l2 cs' _ _).2 7 (.int .i64 0)
  rw [set_l21] at q7
  have S8 : Has w0 _ (cs' ++ [blkC _ B #[.int .i64 3, .int .u64 cy, .int .i64 t, .int .i64 0, .int .i64 0, .int .i64 0, .int .i64 0, .int .i64 0] 64] ++ [blkC _ B1 #[.int .i64 A.doing, .int .u64 A.cy, .int .i64 A.turn, .int .i64 A.ek, .int .i64 0, .int .i64 A.ea, .int .i64 A.eb, .int .i64 0] 64]) := q7
  clear q7 S7
  go_wp2_with fail
  obtain ⟨r0, r1, r2, r3, r4, r5, r6, r7, fr⟩ := row8 (S8.get (cs'.length + 1) (get_l2 cs' _ _).2)
  refine bodyPost_ret (v := .tuple #[.slice ma l.length mc, .agg #[.int .i64 A.doing, .int .u64 A.cy, .int .i64 A.turn, .int .i64 A.ek, .int .i64 0, .int .i64 A.ea, .int .i64 A.eb, .int .i64 0]]) (by simp [results, Try.results31, go_sem, r0, r1, r2, r3, r4, r5, r6, r7]) rfl ⟨rfl, ?_⟩
  have S9 := S8.front.front
  rw [HCS.out] at S9
  exact S9.front.front

set_option maxRecDepth 100000 in
set_option maxHeartbeats 4000000 in
theorem rst5 (t0 : 0 ≤ t) (t1 : t < c.mu) (c0 : 1 ≤ cy) (c1 : cy < 999999) :
    Calls Try.prog 31 #[.agg #[lv, .int .i64 n], cfgV c, mv, rdV ⟨5, cy, t, ek, ea, eb⟩, .int .i64 dr] w fun e w' => e = .returned (.tuple #[mv, rdV (dtSaid c l 5 cy t (3 * cy))]) ∧ Has w0 w' cs := by
  obtain ⟨A, hA⟩ : ∃ A, A = dtSaid c l 5 cy t (3 * cy) := ⟨_, rfl⟩
  rw [← hA]
  have HA := Lib.hid hA
  clear hA
  obtain ⟨la, lc, rfl⟩ := own_is (H.get q hq)
  obtain ⟨ma, mc, rfl, -, -⟩ := H.sl i hi
  have HQ := Lib.hid hq
  have HI := Lib.hid hi
  have hmu := h.mu
  clear hi hq
  unfold rdV cfgV cfgCells
  go_enter Try.func31, Try.ntmps31
  have G0 := (((H.blkNew #[.slice la c.things.length lc, .int .i64 n] 59).blkNew (cfgCells c) 61).blkNew #[.int .i64 5, .int .u64 cy, .int .i64 t, .int .i64 0, .int .i64 0, .int .i64 0, .int .i64 0, .int .i64 0] 64).blkNew #[.int .i64 0, .int .u64 0, .int .i64 0, .int .i64 0, .int .i64 0, .int .i64 0, .int .i64 0, .int .i64 0] 64
  have z1 : ∀ (w : World) o, (w.alloc o).heap.size = w.heap.size + 1 := fun w o => by simp
  simp only [z1] at G0
  clear z1
  go_wp2_with fail
  refine (rsaidV G0 i q n 5 5 cy t (3 * cy) rfl (get_app (get_app (get_app (get_app HI.out _) _) _) _) (get_app (get_app (get_app (get_app HQ.out _) _) _) _) h (by decide) t0 t1).mono ?_
  rw [← HA.out]
  rintro e w1 ⟨rfl, G1⟩
  obtain ⟨B, hB⟩ : ∃ B, B = w.heap.size + 1 + 1 := ⟨_, rfl⟩
  obtain ⟨B1, hB1⟩ : ∃ B1, B1 = w.heap.size + 1 + 1 + 1 := ⟨_, rfl⟩
  obtain ⟨cs', hcs⟩ : ∃ cs', cs' = cs ++ [blkC _ w.heap.size #[.slice la c.things.length lc, .int .i64 n] 59] ++ [blkC _ (w.heap.size + 1) (cfgCells c) 61] := ⟨_, rfl⟩
  rw [← hB1, ← hB, ← hcs] at G1
  rw [← hB1, ← hB]
  have HCS := Lib.hid hcs
  have HBB : Hid (B ≠ B1) := Lib.hid (by omega)
  clear G0 hB hB1 hcs
  obtain ⟨b0, b1, b2, b3, b4, b5, b6, b7, fb⟩ := row8 (G1.get cs'.length (get_l2 cs' _ _).1)
  obtain ⟨r0, r1, r2, r3, r4, r5, r6, r7, fr⟩ := row8 (G1.get (cs'.length + 1) (get_l2 cs' _ _).2)
  have S0 := G1
  have q0 := S0.blkSet _ (get_l2 cs' _ _).2 0 (.int .i64 A.doing)
  rw [set_l21] at q0
  have S1 : Has w0 _ (cs' ++ [blkC _ B #[.int .i64 5, .int .u64 cy, .int .i64 t, .int .i64 0, .int .i64 0, .int .i64 0, .int .i64 0, .int .i64 0] 64] ++ [blkC _ B1 #[.int .i64 A.doing, .int .u64 0, .int .i64 0, .int .i64 0, .int .i64 0, .int .i64 0, .int .i64 0, .int .i64 0] 64]) := q0
  clear q0 S0
  have q1 := S1.blkSet _ (get_l2 cs' _ _).2 1 (.int .u64 A.cy)
  rw [set_l21] at q1
  have S2 : Has w0 _ (cs' ++ [blkC _ B #[.int .i64 5, .int .u64 cy, .int .i64 t, .int .i64 0, .int .i64 0, .int .i64 0, .int .i64 0, .int .i64 0] 64] ++ [blkC _ B1 #[.int .i64 A.doing, .int .u64 A.cy, .int .i64 0, .int .i64 0, .int .i64 0, .int .i64 0, .int .i64 0, .int .i64 0] 64]) := q1
  clear q1 S1
  have q2 := S2.blkSet _ (get_l2 cs' _ _).2 2 (.int .i64 A.turn)
  rw [set_l21] at q2
  have S3 : Has w0 _ (cs' ++ [blkC _ B #[.int .i64 5, .int .u64 cy, .int .i64 t, .int .i64 0, .int .i64 0, .int .i64 0, .int .i64 0, .int .i64 0] 64] ++ [blkC _ B1 #[.int .i64 A.doing, .int .u64 A.cy, .int .i64 A.turn, .int .i64 0, .int .i64 0, .int .i64 0, .int .i64 0, .int .i64 0] 64]) := q2
  clear q2 S2
  have q3 := S3.blkSet _ (get_l2 cs' _ _).2 3 (.int .i64 A.ek)
  rw [set_l21] at q3
  have S4 : Has w0 _ (cs' ++ [blkC _ B #[.int .i64 5, .int .u64 cy, .int .i64 t, .int .i64 0, .int .i64 0, .int .i64 0, .int .i64 0, .int .i64 0] 64] ++ [blkC _ B1 #[.int .i64 A.doing, .int .u64 A.cy, .int .i64 A.turn, .int .i64 A.ek, .int .i64 0, .int .i64 0, .int .i64 0, .int .i64 0] 64]) := q3
  clear q3 S3
  have q4 := S4.blkSet _ (get_l2 cs' _ _).2 4 (.int .i64 0)
  rw [set_l21] at q4
  have S5 : Has w0 _ (cs' ++ [blkC _ B #[.int .i64 5, .int .u64 cy, .int .i64 t, .int .i64 0, .int .i64 0, .int .i64 0, .int .i64 0, .int .i64 0] 64] ++ [blkC _ B1 #[.int .i64 A.doing, .int .u64 A.cy, .int .i64 A.turn, .int .i64 A.ek, .int .i64 0, .int .i64 0, .int .i64 0, .int .i64 0] 64]) := q4
  clear q4 S4
  have q5 := S5.blkSet _ (get_l2 cs' _ _).2 5 (.int .i64 A.ea)
  rw [set_l21] at q5
  have S6 : Has w0 _ (cs' ++ [blkC _ B #[.int .i64 5, .int .u64 cy, .int .i64 t, .int .i64 0, .int .i64 0, .int .i64 0, .int .i64 0, .int .i64 0] 64] ++ [blkC _ B1 #[.int .i64 A.doing, .int .u64 A.cy, .int .i64 A.turn, .int .i64 A.ek, .int .i64 0, .int .i64 A.ea, .int .i64 0, .int .i64 0] 64]) := q5
  clear q5 S5
  have q6 := S6.blkSet _ (get_l2 cs' _ _).2 6 (.int .i64 A.eb)
  rw [set_l21] at q6
  have S7 : Has w0 _ (cs' ++ [blkC _ B #[.int .i64 5, .int .u64 cy, .int .i64 t, .int .i64 0, .int .i64 0, .int .i64 0, .int .i64 0, .int .i64 0] 64] ++ [blkC _ B1 #[.int .i64 A.doing, .int .u64 A.cy, .int .i64 A.turn, .int .i64 A.ek, .int .i64 0, .int .i64 A.ea, .int .i64 A.eb, .int .i64 0] 64]) := q6
  clear q6 S6
  have q7 := S7.blkSet _ (get_l2 cs' _ _).2 7 (.int .i64 0)
  rw [set_l21] at q7
  have S8 : Has w0 _ (cs' ++ [blkC _ B #[.int .i64 5, .int .u64 cy, .int .i64 t, .int .i64 0, .int .i64 0, .int .i64 0, .int .i64 0, .int .i64 0] 64] ++ [blkC _ B1 #[.int .i64 A.doing, .int .u64 A.cy, .int .i64 A.turn, .int .i64 A.ek, .int .i64 0, .int .i64 A.ea, .int .i64 A.eb, .int .i64 0] 64]) := q7
  clear q7 S7
  go_wp2_with fail
  obtain ⟨r0, r1, r2, r3, r4, r5, r6, r7, fr⟩ := row8 (S8.get (cs'.length + 1) (get_l2 cs' _ _).2)
  refine bodyPost_ret (v := .tuple #[.slice ma l.length mc, .agg #[.int .i64 A.doing, .int .u64 A.cy, .int .i64 A.turn, .int .i64 A.ek, .int .i64 0, .int .i64 A.ea, .int .i64 A.eb, .int .i64 0]]) (by simp [results, Try.results31, go_sem, r0, r1, r2, r3, r4, r5, r6, r7]) rfl ⟨rfl, ?_⟩
  have S9 := S8.front.front
  rw [HCS.out] at S9
  exact S9.front.front

set_option maxRecDepth 100000 in
set_option maxHeartbeats 4000000 in
theorem rst2 (c0 : 1 ≤ cy) (c1 : cy < 999999) :
    Calls Try.prog 31 #[.agg #[lv, .int .i64 n], cfgV c, mv, rdV ⟨2, cy, t, ek, ea, eb⟩, .int .i64 dr] w fun e w' => ∃ mv', e = .returned (.tuple #[mv', rdV (dtTell l 2 cy 2).2]) ∧ Has w0 w' (cs.set i (slC _ .u64 mv' (dtTell l 2 cy 2).1)) := by
  obtain ⟨la, lc, rfl⟩ := own_is (H.get q hq)
  obtain ⟨ma, mc, rfl, -, -⟩ := H.sl i hi
  have HQ := Lib.hid hq
  have HI := Lib.hid hi
  have hmu := h.mu
  clear hi hq
  unfold rdV cfgV cfgCells
  go_enter Try.func31, Try.ntmps31
  have G0 := (((H.blkNew #[.slice la c.things.length lc, .int .i64 n] 59).blkNew (cfgCells c) 61).blkNew #[.int .i64 2, .int .u64 cy, .int .i64 t, .int .i64 0, .int .i64 0, .int .i64 0, .int .i64 0, .int .i64 0] 64).blkNew #[.int .i64 0, .int .u64 0, .int .i64 0, .int .i64 0, .int .i64 0, .int .i64 0, .int .i64 0, .int .i64 0] 64
  have z1 : ∀ (w : World) o, (w.alloc o).heap.size = w.heap.size + 1 := fun w o => by simp
  simp only [z1] at G0
  clear z1
  go_wp2_with fail
  refine (rtellV G0 i 2 2 3 cy t 2 rfl rfl (get_app (get_app (get_app (get_app HI.out _) _) _) _) hl (by decide) (by omega) (by omega)).mono ?_
  rintro e w1 ⟨na, nl, nc, rfl, G1⟩
  rw [set_l2 _ _ _ _ (get_app (get_app HI.out _) _), set_l2 _ _ _ _ HI.out] at G1
  obtain ⟨B, hB⟩ : ∃ B, B = w.heap.size + 1 + 1 := ⟨_, rfl⟩
  obtain ⟨B1, hB1⟩ : ∃ B1, B1 = w.heap.size + 1 + 1 + 1 := ⟨_, rfl⟩
  obtain ⟨cs', hcs⟩ : ∃ cs', cs' = cs.set i (slC _ .u64 (.slice na nl nc) (mput l 0 (wPhase cy 2))) ++ [blkC _ w.heap.size #[.slice la c.things.length lc, .int .i64 n] 59] ++ [blkC _ (w.heap.size + 1) (cfgCells c) 61] := ⟨_, rfl⟩
  rw [← hB1, ← hB, ← hcs] at G1
  rw [← hB1, ← hB]
  have HCS := Lib.hid hcs
  have HBB : Hid (B ≠ B1) := Lib.hid (by omega)
  clear G0 hB hB1 hcs
  obtain ⟨b0, b1, b2, b3, b4, b5, b6, b7, fb⟩ := row8 (G1.get cs'.length (get_l2 cs' _ _).1)
  obtain ⟨r0, r1, r2, r3, r4, r5, r6, r7, fr⟩ := row8 (G1.get (cs'.length + 1) (get_l2 cs' _ _).2)
  have S0 := G1
  have q0 := S0.blkSet _ (get_l2 cs' _ _).2 0 (.int .i64 3)
  rw [set_l21] at q0
  have S1 : Has w0 _ (cs' ++ [blkC _ B #[.int .i64 2, .int .u64 cy, .int .i64 t, .int .i64 0, .int .i64 0, .int .i64 0, .int .i64 0, .int .i64 0] 64] ++ [blkC _ B1 #[.int .i64 3, .int .u64 0, .int .i64 0, .int .i64 0, .int .i64 0, .int .i64 0, .int .i64 0, .int .i64 0] 64]) := q0
  clear q0 S0
  have q1 := S1.blkSet _ (get_l2 cs' _ _).2 1 (.int .u64 cy)
  rw [set_l21] at q1
  have S2 : Has w0 _ (cs' ++ [blkC _ B #[.int .i64 2, .int .u64 cy, .int .i64 t, .int .i64 0, .int .i64 0, .int .i64 0, .int .i64 0, .int .i64 0] 64] ++ [blkC _ B1 #[.int .i64 3, .int .u64 cy, .int .i64 0, .int .i64 0, .int .i64 0, .int .i64 0, .int .i64 0, .int .i64 0] 64]) := q1
  clear q1 S1
  have q2 := S2.blkSet _ (get_l2 cs' _ _).2 2 (.int .i64 0)
  rw [set_l21] at q2
  have S3 : Has w0 _ (cs' ++ [blkC _ B #[.int .i64 2, .int .u64 cy, .int .i64 t, .int .i64 0, .int .i64 0, .int .i64 0, .int .i64 0, .int .i64 0] 64] ++ [blkC _ B1 #[.int .i64 3, .int .u64 cy, .int .i64 0, .int .i64 0, .int .i64 0, .int .i64 0, .int .i64 0, .int .i64 0] 64]) := q2
  clear q2 S2
  have q3 := S3.blkSet _ (get_l2 cs' _ _).2 3 (.int .i64 7)
  rw [set_l21] at q3
  have S4 : Has w0 _ (cs' ++ [blkC _ B #[.int .i64 2, .int .u64 cy, .int .i64 t, .int .i64 0, .int .i64 0, .int .i64 0, .int .i64 0, .int .i64 0] 64] ++ [blkC _ B1 #[.int .i64 3, .int .u64 cy, .int .i64 0, .int .i64 7, .int .i64 0, .int .i64 0, .int .i64 0, .int .i64 0] 64]) := q3
  clear q3 S3
  have q4 := S4.blkSet _ (get_l2 cs' _ _).2 4 (.int .i64 0)
  rw [set_l21] at q4
  have S5 : Has w0 _ (cs' ++ [blkC _ B #[.int .i64 2, .int .u64 cy, .int .i64 t, .int .i64 0, .int .i64 0, .int .i64 0, .int .i64 0, .int .i64 0] 64] ++ [blkC _ B1 #[.int .i64 3, .int .u64 cy, .int .i64 0, .int .i64 7, .int .i64 0, .int .i64 0, .int .i64 0, .int .i64 0] 64]) := q4
  clear q4 S4
  have q5 := S5.blkSet _ (get_l2 cs' _ _).2 5 (.int .i64 2)
  rw [set_l21] at q5
  have S6 : Has w0 _ (cs' ++ [blkC _ B #[.int .i64 2, .int .u64 cy, .int .i64 t, .int .i64 0, .int .i64 0, .int .i64 0, .int .i64 0, .int .i64 0] 64] ++ [blkC _ B1 #[.int .i64 3, .int .u64 cy, .int .i64 0, .int .i64 7, .int .i64 0, .int .i64 2, .int .i64 0, .int .i64 0] 64]) := q5
  clear q5 S5
  have q6 := S6.blkSet _ (get_l2 cs' _ _).2 6 (.int .i64 cy)
  rw [set_l21] at q6
  have S7 : Has w0 _ (cs' ++ [blkC _ B #[.int .i64 2, .int .u64 cy, .int .i64 t, .int .i64 0, .int .i64 0, .int .i64 0, .int .i64 0, .int .i64 0] 64] ++ [blkC _ B1 #[.int .i64 3, .int .u64 cy, .int .i64 0, .int .i64 7, .int .i64 0, .int .i64 2, .int .i64 cy, .int .i64 0] 64]) := q6
  clear q6 S6
  have q7 := S7.blkSet _ (get_l2 cs' _ _).2 7 (.int .i64 0)
  rw [set_l21] at q7
  have S8 : Has w0 _ (cs' ++ [blkC _ B #[.int .i64 2, .int .u64 cy, .int .i64 t, .int .i64 0, .int .i64 0, .int .i64 0, .int .i64 0, .int .i64 0] 64] ++ [blkC _ B1 #[.int .i64 3, .int .u64 cy, .int .i64 0, .int .i64 7, .int .i64 0, .int .i64 2, .int .i64 cy, .int .i64 0] 64]) := q7
  clear q7 S7
  go_wp2_with fail
  obtain ⟨r0, r1, r2, r3, r4, r5, r6, r7, fr⟩ := row8 (S8.get (cs'.length + 1) (get_l2 cs' _ _).2)
  refine bodyPost_ret (v := .tuple #[.slice na nl nc, .agg #[.int .i64 3, .int .u64 cy, .int .i64 0, .int .i64 7, .int .i64 0, .int .i64 2, .int .i64 cy, .int .i64 0]]) (by simp [results, Try.results31, go_sem, r0, r1, r2, r3, r4, r5, r6, r7]) rfl ⟨_, rfl, ?_⟩
  have S9 := S8.front.front
  rw [HCS.out] at S9
  exact S9.front.front

set_option maxRecDepth 100000 in
set_option maxHeartbeats 4000000 in
theorem rst4 (c0 : 1 ≤ cy) (c1 : cy < 999999) :
    Calls Try.prog 31 #[.agg #[lv, .int .i64 n], cfgV c, mv, rdV ⟨4, cy, t, ek, ea, eb⟩, .int .i64 dr] w fun e w' => ∃ mv', e = .returned (.tuple #[mv', rdV (dtTell l 4 cy 3).2]) ∧ Has w0 w' (cs.set i (slC _ .u64 mv' (dtTell l 4 cy 3).1)) := by
  obtain ⟨la, lc, rfl⟩ := own_is (H.get q hq)
  obtain ⟨ma, mc, rfl, -, -⟩ := H.sl i hi
  have HQ := Lib.hid hq
  have HI := Lib.hid hi
  have hmu := h.mu
  clear hi hq
  unfold rdV cfgV cfgCells
  go_enter Try.func31, Try.ntmps31
  have G0 := (((H.blkNew #[.slice la c.things.length lc, .int .i64 n] 59).blkNew (cfgCells c) 61).blkNew #[.int .i64 4, .int .u64 cy, .int .i64 t, .int .i64 0, .int .i64 0, .int .i64 0, .int .i64 0, .int .i64 0] 64).blkNew #[.int .i64 0, .int .u64 0, .int .i64 0, .int .i64 0, .int .i64 0, .int .i64 0, .int .i64 0, .int .i64 0] 64
  have z1 : ∀ (w : World) o, (w.alloc o).heap.size = w.heap.size + 1 := fun w o => by simp
  simp only [z1] at G0
  clear z1
  go_wp2_with fail
  refine (rtellV G0 i 4 4 5 cy t 3 rfl rfl (get_app (get_app (get_app (get_app HI.out _) _) _) _) hl (by decide) (by omega) (by omega)).mono ?_
  rintro e w1 ⟨na, nl, nc, rfl, G1⟩
  rw [set_l2 _ _ _ _ (get_app (get_app HI.out _) _), set_l2 _ _ _ _ HI.out] at G1
  obtain ⟨B, hB⟩ : ∃ B, B = w.heap.size + 1 + 1 := ⟨_, rfl⟩
  obtain ⟨B1, hB1⟩ : ∃ B1, B1 = w.heap.size + 1 + 1 + 1 := ⟨_, rfl⟩
  obtain ⟨cs', hcs⟩ : ∃ cs', cs' = cs.set i (slC _ .u64 (.slice na nl nc) (mput l 0 (wPhase cy 3))) ++ [blkC _ w.heap.size #[.slice la c.things.length lc, .int .i64 n] 59] ++ [blkC _ (w.heap.size + 1) (cfgCells c) 61] := ⟨_, rfl⟩
  rw [← hB1, ← hB, ← hcs] at G1
  rw [← hB1, ← hB]
  have HCS := Lib.hid hcs
  have HBB : Hid (B ≠ B1) := Lib.hid (by omega)
  clear G0 hB hB1 hcs
  obtain ⟨b0, b1, b2, b3, b4, b5, b6, b7, fb⟩ := row8 (G1.get cs'.length (get_l2 cs' _ _).1)
  obtain ⟨r0, r1, r2, r3, r4, r5, r6, r7, fr⟩ := row8 (G1.get (cs'.length + 1) (get_l2 cs' _ _).2)
  have S0 := G1
  have q0 := S0.blkSet _ (get_l2 cs' _ _).2 0 (.int .i64 5)
  rw [set_l21] at q0
  have S1 : Has w0 _ (cs' ++ [blkC _ B #[.int .i64 4, .int .u64 cy, .int .i64 t, .int .i64 0, .int .i64 0, .int .i64 0, .int .i64 0, .int .i64 0] 64] ++ [blkC _ B1 #[.int .i64 5, .int .u64 0, .int .i64 0, .int .i64 0, .int .i64 0, .int .i64 0, .int .i64 0, .int .i64 0] 64]) := q0
  clear q0 S0
  have q1 := S1.blkSet _ (get_l2 cs' _ _).2 1 (.int .u64 cy)
  rw [set_l21] at q1
  have S2 : Has w0 _ (cs' ++ [blkC _ B #[.int .i64 4, .int .u64 cy, .int .i64 t, .int .i64 0, .int .i64 0, .int .i64 0, .int .i64 0, .int .i64 0] 64] ++ [blkC _ B1 #[.int .i64 5, .int .u64 cy, .int .i64 0, .int .i64 0, .int .i64 0, .int .i64 0, .int .i64 0, .int .i64 0] 64]) := q1
  clear q1 S1
  have q2 := S2.blkSet _ (get_l2 cs' _ _).2 2 (.int .i64 0)
  rw [set_l21] at q2
  have S3 : Has w0 _ (cs' ++ [blkC _ B #[.int .i64 4, .int .u64 cy, .int .i64 t, .int .i64 0, .int .i64 0, .int .i64 0, .int .i64 0, .int .i64 0] 64] ++ [blkC _ B1 #[.int .i64 5, .int .u64 cy, .int .i64 0, .int .i64 0, .int .i64 0, .int .i64 0, .int .i64 0, .int .i64 0] 64]) := q2
  clear q2 S2
  have q3 := S3.blkSet _ (get_l2 cs' _ _).2 3 (.int .i64 7)
  rw [set_l21] at q3
  have S4 : Has w0 _ (cs' ++ [blkC _ B #[.int .i64 4, .int .u64 cy, .int .i64 t, .int .i64 0, .int .i64 0, .int .i64 0, .int .i64 0, .int .i64 0] 64] ++ [blkC _ B1 #[.int .i64 5, .int .u64 cy, .int .i64 0, .int .i64 7, .int .i64 0, .int .i64 0, .int .i64 0, .int .i64 0] 64]) := q3
  clear q3 S3
  have q4 := S4.blkSet _ (get_l2 cs' _ _).2 4 (.int .i64 0)
  rw [set_l21] at q4
  have S5 : Has w0 _ (cs' ++ [blkC _ B #[.int .i64 4, .int .u64 cy, .int .i64 t, .int .i64 0, .int .i64 0, .int .i64 0, .int .i64 0, .int .i64 0] 64] ++ [blkC _ B1 #[.int .i64 5, .int .u64 cy, .int .i64 0, .int .i64 7, .int .i64 0, .int .i64 0, .int .i64 0, .int .i64 0] 64]) := q4
  clear q4 S4
  have q5 := S5.blkSet _ (get_l2 cs' _ _).2 5 (.int .i64 3)
  rw [set_l21] at q5
  have S6 : Has w0 _ (cs' ++ [blkC _ B #[.int .i64 4, .int .u64 cy, .int .i64 t, .int .i64 0, .int .i64 0, .int .i64 0, .int .i64 0, .int .i64 0] 64] ++ [blkC _ B1 #[.int .i64 5, .int .u64 cy, .int .i64 0, .int .i64 7, .int .i64 0, .int .i64 3, .int .i64 0, .int .i64 0] 64]) := q5
  clear q5 S5
  have q6 := S6.blkSet _ (get_l2 cs' _ _).2 6 (.int .i64 cy)
  rw [set_l21] at q6
  have S7 : Has w0 _ (cs' ++ [blkC _ B #[.int .i64 4, .int .u64 cy, .int .i64 t, .int .i64 0, .int .i64 0, .int .i64 0, .int .i64 0, .int .i64 0] 64] ++ [blkC _ B1 #[.int .i64 5, .int .u64 cy, .int .i64 0, .int .i64 7, .int .i64 0, .int .i64 3, .int .i64 cy, .int .i64 0] 64]) := q6
  clear q6 S6
  have q7 := S7.blkSet _ (get_l2 cs' _ _).2 7 (.int .i64 0)
  rw [set_l21] at q7
  have S8 : Has w0 _ (cs' ++ [blkC _ B #[.int .i64 4, .int .u64 cy, .int .i64 t, .int .i64 0, .int .i64 0, .int .i64 0, .int .i64 0, .int .i64 0] 64] ++ [blkC _ B1 #[.int .i64 5, .int .u64 cy, .int .i64 0, .int .i64 7, .int .i64 0, .int .i64 3, .int .i64 cy, .int .i64 0] 64]) := q7
  clear q7 S7
  go_wp2_with fail
  obtain ⟨r0, r1, r2, r3, r4, r5, r6, r7, fr⟩ := row8 (S8.get (cs'.length + 1) (get_l2 cs' _ _).2)
  refine bodyPost_ret (v := .tuple #[.slice na nl nc, .agg #[.int .i64 5, .int .u64 cy, .int .i64 0, .int .i64 7, .int .i64 0, .int .i64 3, .int .i64 cy, .int .i64 0]]) (by simp [results, Try.results31, go_sem, r0, r1, r2, r3, r4, r5, r6, r7]) rfl ⟨_, rfl, ?_⟩
  have S9 := S8.front.front
  rw [HCS.out] at S9
  exact S9.front.front

set_option maxRecDepth 100000 in
set_option maxHeartbeats 4000000 in
theorem rst6 (c0 : 1 ≤ cy) (c1 : cy < 999999) :
    Calls Try.prog 31 #[.agg #[lv, .int .i64 n], cfgV c, mv, rdV ⟨6, cy, t, ek, ea, eb⟩, .int .i64 dr] w fun e w' => ∃ mv', e = .returned (.tuple #[mv', rdV (dtTell l 6 cy 4).2]) ∧ Has w0 w' (cs.set i (slC _ .u64 mv' (dtTell l 6 cy 4).1)) := by
  obtain ⟨la, lc, rfl⟩ := own_is (H.get q hq)
  obtain ⟨ma, mc, rfl, -, -⟩ := H.sl i hi
  have HQ := Lib.hid hq
  have HI := Lib.hid hi
  have hmu := h.mu
  clear hi hq
  unfold rdV cfgV cfgCells
  go_enter Try.func31, Try.ntmps31
  have G0 := (((H.blkNew #[.slice la c.things.length lc, .int .i64 n] 59).blkNew (cfgCells c) 61).blkNew #[.int .i64 6, .int .u64 cy, .int .i64 t, .int .i64 0, .int .i64 0, .int .i64 0, .int .i64 0, .int .i64 0] 64).blkNew #[.int .i64 0, .int .u64 0, .int .i64 0, .int .i64 0, .int .i64 0, .int .i64 0, .int .i64 0, .int .i64 0] 64
  have z1 : ∀ (w : World) o, (w.alloc o).heap.size = w.heap.size + 1 := fun w o => by simp
  simp only [z1] at G0
  clear z1
  go_wp2_with fail
  refine (rtellV G0 i 6 6 7 cy t 4 rfl rfl (get_app (get_app (get_app (get_app HI.out _) _) _) _) hl (by decide) (by omega) (by omega)).mono ?_
  rintro e w1 ⟨na, nl, nc, rfl, G1⟩
  rw [set_l2 _ _ _ _ (get_app (get_app HI.out _) _), set_l2 _ _ _ _ HI.out] at G1
  obtain ⟨B, hB⟩ : ∃ B, B = w.heap.size + 1 + 1 := ⟨_, rfl⟩
  obtain ⟨B1, hB1⟩ : ∃ B1, B1 = w.heap.size + 1 + 1 + 1 := ⟨_, rfl⟩
  obtain ⟨cs', hcs⟩ : ∃ cs', cs' = cs.set i (slC _ .u64 (.slice na nl nc) (mput l 0 (wPhase cy 4))) ++ [blkC _ w.heap.size #[.slice la c.things.length lc, .int .i64 n] 59] ++ [blkC _ (w.heap.size + 1) (cfgCells c) 61] := ⟨_, rfl⟩
  rw [← hB1, ← hB, ← hcs] at G1
  rw [← hB1, ← hB]
  have HCS := Lib.hid hcs
  have HBB : Hid (B ≠ B1) := Lib.hid (by omega)
  clear G0 hB hB1 hcs
  obtain ⟨b0, b1, b2, b3, b4, b5, b6, b7, fb⟩ := row8 (G1.get cs'.length (get_l2 cs' _ _).1)
  obtain ⟨r0, r1, r2, r3, r4, r5, r6, r7, fr⟩ := row8 (G1.get (cs'.length + 1) (get_l2 cs' _ _).2)
  have S0 := G1
  have q0 := S0.blkSet _ (get_l2 cs' _ _).2 0 (.int .i64 7)
  rw [set_l21] at q0
  have S1 : Has w0 _ (cs' ++ [blkC _ B #[.int .i64 6, .int .u64 cy, .int .i64 t, .int .i64 0, .int .i64 0, .int .i64 0, .int .i64 0, .int .i64 0] 64] ++ [blkC _ B1 #[.int .i64 7, .int .u64 0, .int .i64 0, .int .i64 0, .int .i64 0, .int .i64 0, .int .i64 0, .int .i64 0] 64]) := q0
  clear q0 S0
  have q1 := S1.blkSet _ (get_l2 cs' _ _).2 1 (.int .u64 cy)
  rw [set_l21] at q1
  have S2 : Has w0 _ (cs' ++ [blkC _ B #[.int .i64 6, .int .u64 cy, .int .i64 t, .int .i64 0, .int .i64 0, .int .i64 0, .int .i64 0, .int .i64 0] 64] ++ [blkC _ B1 #[.int .i64 7, .int .u64 cy, .int .i64 0, .int .i64 0, .int .i64 0, .int .i64 0, .int .i64 0, .int .i64 0] 64]) := q1
  clear q1 S1
  have q2 := S2.blkSet _ (get_l2 cs' _ _).2 2 (.int .i64 0)
  rw [set_l21] at q2
  have S3 : Has w0 _ (cs' ++ [blkC _ B #[.int .i64 6, .int .u64 cy, .int .i64 t, .int .i64 0, .int .i64 0, .int .i64 0, .int .i64 0, .int .i64 0] 64] ++ [blkC _ B1 #[.int .i64 7, .int .u64 cy, .int .i64 0, .int .i64 0, .int .i64 0, .int .i64 0, .int .i64 0, .int .i64 0] 64]) := q2
  clear q2 S2
  have q3 := S3.blkSet _ (get_l2 cs' _ _).2 3 (.int .i64 7)
  rw [set_l21] at q3
  have S4 : Has w0 _ (cs' ++ [blkC _ B #[.int .i64 6, .int .u64 cy, .int .i64 t, .int .i64 0, .int .i64 0, .int .i64 0, .int .i64 0, .int .i64 0] 64] ++ [blkC _ B1 #[.int .i64 7, .int .u64 cy, .int .i64 0, .int .i64 7, .int .i64 0, .int .i64 0, .int .i64 0, .int .i64 0] 64]) := q3
  clear q3 S3
  have q4 := S4.blkSet _ (get_l2 cs' _ _).2 4 (.int .i64 0)
  rw [set_l21] at q4
  have S5 : Has w0 _ (cs' ++ [blkC _ B #[.int .i64 6, .int .u64 cy, .int .i64 t, .int .i64 0, .int .i64 0, .int .i64 0, .int .i64 0, .int .i64 0] 64] ++ [blkC _ B1 #[.int .i64 7, .int .u64 cy, .int .i64 0, .int .i64 7, .int .i64 0, .int .i64 0, .int .i64 0, .int .i64 0] 64]) := q4
  clear q4 S4
  have q5 := S5.blkSet _ (get_l2 cs' _ _).2 5 (.int .i64 4)
  rw [set_l21] at q5
  have S6 : Has w0 _ (cs' ++ [blkC _ B #[.int .i64 6, .int .u64 cy, .int .i64 t, .int .i64 0, .int .i64 0, .int .i64 0, .int .i64 0, .int .i64 0] 64] ++ [blkC _ B1 #[.int .i64 7, .int .u64 cy, .int .i64 0, .int .i64 7, .int .i64 0, .int .i64 4, .int .i64 0, .int .i64 0] 64]) := q5
  clear q5 S5
  have q6 := S6.blkSet _ (get_l2 cs' _ _).2 6 (.int .i64 cy)
  rw [set_l21] at q6
  have S7 : Has w0 _ (cs' ++ [blkC _ B #[.int .i64 6, .int .u64 cy, .int .i64 t, .int .i64 0, .int .i64 0, .int .i64 0, .int .i64 0, .int .i64 0] 64] ++ [blkC _ B1 #[.int .i64 7, .int .u64 cy, .int .i64 0, .int .i64 7, .int .i64 0, .int .i64 4, .int .i64 cy, .int .i64 0] 64]) := q6
  clear q6 S6
  have q7 := S7.blkSet _ (get_l2 cs' _ _).2 7 (.int .i64 0)
  rw [set_l21] at q7
  have S8 : Has w0 _ (cs' ++ [blkC _ B #[.int .i64 6, .int .u64 cy, .int .i64 t, .int .i64 0, .int .i64 0, .int .i64 0, .int .i64 0, .int .i64 0] 64] ++ [blkC _ B1 #[.int .i64 7, .int .u64 cy, .int .i64 0, .int .i64 7, .int .i64 0, .int .i64 4, .int .i64 cy, .int .i64 0] 64]) := q7
  clear q7 S7
  go_wp2_with fail
  obtain ⟨r0, r1, r2, r3, r4, r5, r6, r7, fr⟩ := row8 (S8.get (cs'.length + 1) (get_l2 cs' _ _).2)
  refine bodyPost_ret (v := .tuple #[.slice na nl nc, .agg #[.int .i64 7, .int .u64 cy, .int .i64 0, .int .i64 7, .int .i64 0, .int .i64 4, .int .i64 cy, .int .i64 0]]) (by simp [results, Try.results31, go_sem, r0, r1, r2, r3, r4, r5, r6, r7]) rfl ⟨_, rfl, ?_⟩
  have S9 := S8.front.front
  rw [HCS.out] at S9
  exact S9.front.front

set_option maxRecDepth 100000 in
set_option maxHeartbeats 4000000 in
theorem rst11 (c0 : 1 ≤ cy) (c1 : cy < 999999) :
    Calls Try.prog 31 #[.agg #[lv, .int .i64 n], cfgV c, mv, rdV ⟨11, cy, t, ek, ea, eb⟩, .int .i64 dr] w fun e w' => ∃ mv', e = .returned (.tuple #[mv', rdV (dtTell l 11 cy 5).2]) ∧ Has w0 w' (cs.set i (slC _ .u64 mv' (dtTell l 11 cy 5).1)) := by
  obtain ⟨la, lc, rfl⟩ := own_is (H.get q hq)
  obtain ⟨ma, mc, rfl, -, -⟩ := H.sl i hi
  have HQ := Lib.hid hq
  have HI := Lib.hid hi
  have hmu := h.mu
  clear hi hq
  unfold rdV cfgV cfgCells
  go_enter Try.func31, Try.ntmps31
  have G0 := (((H.blkNew #[.slice la c.things.length lc, .int .i64 n] 59).blkNew (cfgCells c) 61).blkNew #[.int .i64 11, .int .u64 cy, .int .i64 t, .int .i64 0, .int .i64 0, .int .i64 0, .int .i64 0, .int .i64 0] 64).blkNew #[.int .i64 0, .int .u64 0, .int .i64 0, .int .i64 0, .int .i64 0, .int .i64 0, .int .i64 0, .int .i64 0] 64
  have z1 : ∀ (w : World) o, (w.alloc o).heap.size = w.heap.size + 1 := fun w o => by simp
  simp only [z1] at G0
  clear z1
  go_wp2_with fail
  refine (rtellV G0 i 11 11 12 cy t 5 rfl rfl (get_app (get_app (get_app (get_app HI.out _) _) _) _) hl (by decide) (by omega) (by omega)).mono ?_
  rintro e w1 ⟨na, nl, nc, rfl, G1⟩
  rw [set_l2 _ _ _ _ (get_app (get_app HI.out _) _), set_l2 _ _ _ _ HI.out] at G1
  obtain ⟨B, hB⟩ : ∃ B, B = w.heap.size + 1 + 1 := ⟨_, rfl⟩
  obtain ⟨B1, hB1⟩ : ∃ B1, B1 = w.heap.size + 1 + 1 + 1 := ⟨_, rfl⟩
  obtain ⟨cs', hcs⟩ : ∃ cs', cs' = cs.set i (slC _ .u64 (.slice na nl nc) (mput l 0 (wPhase cy 5))) ++ [blkC _ w.heap.size #[.slice la c.things.length lc, .int .i64 n] 59] ++ [blkC _ (w.heap.size + 1) (cfgCells c) 61] := ⟨_, rfl⟩
  rw [← hB1, ← hB, ← hcs] at G1
  rw [← hB1, ← hB]
  have HCS := Lib.hid hcs
  have HBB : Hid (B ≠ B1) := Lib.hid (by omega)
  clear G0 hB hB1 hcs
  obtain ⟨b0, b1, b2, b3, b4, b5, b6, b7, fb⟩ := row8 (G1.get cs'.length (get_l2 cs' _ _).1)
  obtain ⟨r0, r1, r2, r3, r4, r5, r6, r7, fr⟩ := row8 (G1.get (cs'.length + 1) (get_l2 cs' _ _).2)
  have S0 := G1
  have q0 := S0.blkSet _ (get_l2 cs' _ _).2 0 (.int .i64 12)
  rw [set_l21] at q0
  have S1 : Has w0 _ (cs' ++ [blkC _ B #[.int .i64 11, .int .u64 cy, .int .i64 t, .int .i64 0, .int .i64 0, .int .i64 0, .int .i64 0, .int .i64 0] 64] ++ [blkC _ B1 #[.int .i64 12, .int .u64 0, .int .i64 0, .int .i64 0, .int .i64 0, .int .i64 0, .int .i64 0, .int .i64 0] 64]) := q0
  clear q0 S0
  have q1 := S1.blkSet _ (get_l2 cs' _ _).2 1 (.int .u64 cy)
  rw [set_l21] at q1
  have S2 : Has w0 _ (cs' ++ [blkC _ B #[.int .i64 11, .int .u64 cy, .int .i64 t, .int .i64 0, .int .i64 0, .int .i64 0, .int .i64 0, .int .i64 0] 64] ++ [blkC _ B1 #[.int .i64 12, .int .u64 cy, .int .i64 0, .int .i64 0, .int .i64 0, .int .i64 0, .int .i64 0, .int .i64 0] 64]) := q1
  clear q1 S1
  have q2 := S2.blkSet _ (get_l2 cs' _ _).2 2 (.int .i64 0)
  rw [set_l21] at q2
  have S3 : Has w0 _ (cs' ++ [blkC _ B #[.int .i64 11, .int .u64 cy, .int .i64 t, .int .i64 0, .int .i64 0, .int .i64 0, .int .i64 0, .int .i64 0] 64] ++ [blkC _ B1 #[.int .i64 12, .int .u64 cy, .int .i64 0, .int .i64 0, .int .i64 0, .int .i64 0, .int .i64 0, .int .i64 0] 64]) := q2
  clear q2 S2
  have q3 := S3.blkSet _ (get_l2 cs' _ _).2 3 (.int .i64 7)
  rw [set_l21] at q3
  have S4 : Has w0 _ (cs' ++ [blkC _ B #[.int .i64 11, .int .u64 cy, .int .i64 t, .int .i64 0, .int .i64 0, .int .i64 0, .int .i64 0, .int .i64 0] 64] ++ [blkC _ B1 #[.int .i64 12, .int .u64 cy, .int .i64 0, .int .i64 7, .int .i64 0, .int .i64 0, .int .i64 0, .int .i64 0] 64]) := q3
  clear q3 S3
  have q4 := S4.blkSet _ (get_l2 cs' _ _).2 4 (.int .i64 0)
  rw [set_l21] at q4
  have S5 : Has w0 _ (cs' ++ [blkC _ B #[.int .i64 11, .int .u64 cy, .int .i64 t, .int .i64 0, .int .i64 0, .int .i64 0, .int .i64 0, .int .i64 0] 64] ++ [blkC _ B1 #[.int .i64 12, .int .u64 cy, .int .i64 0, .int .i64 7, .int .i64 0, .int .i64 0, .int .i64 0, .int .i64 0] 64]) := q4
  clear q4 S4
  have q5 := S5.blkSet _ (get_l2 cs' _ _).2 5 (.int .i64 5)
  rw [set_l21] at q5
  have S6 : Has w0 _ (cs' ++ [blkC _ B #[.int .i64 11, .int .u64 cy, .int .i64 t, .int .i64 0, .int .i64 0, .int .i64 0, .int .i64 0, .int .i64 0] 64] ++ [blkC _ B1 #[.int .i64 12, .int .u64 cy, .int .i64 0, .int .i64 7, .int .i64 0, .int .i64 5, .int .i64 0, .int .i64 0] 64]) := q5
  clear q5 S5
  have q6 := S6.blkSet _ (get_l2 cs' _ _).2 6 (.int .i64 cy)
  rw [set_l21] at q6
  have S7 : Has w0 _ (cs' ++ [blkC _ B #[.int .i64 11, .int .u64 cy, .int .i64 t, .int .i64 0, .int .i64 0, .int .i64 0, .int .i64 0, .int .i64 0] 64] ++ [blkC _ B1 #[.int .i64 12, .int .u64 cy, .int .i64 0, .int .i64 7, .int .i64 0, .int .i64 5, .int .i64 cy, .int .i64 0] 64]) := q6
  clear q6 S6
  have q7 := S7.blkSet _ (get_l2 cs' _ _).2 7 (.int .i64 0)
  rw [set_l21] at q7
  have S8 : Has w0 _ (cs' ++ [blkC _ B #[.int .i64 11, .int .u64 cy, .int .i64 t, .int .i64 0, .int .i64 0, .int .i64 0, .int .i64 0, .int .i64 0] 64] ++ [blkC _ B1 #[.int .i64 12, .int .u64 cy, .int .i64 0, .int .i64 7, .int .i64 0, .int .i64 5, .int .i64 cy, .int .i64 0] 64]) := q7
  clear q7 S7
  go_wp2_with fail
  obtain ⟨r0, r1, r2, r3, r4, r5, r6, r7, fr⟩ := row8 (S8.get (cs'.length + 1) (get_l2 cs' _ _).2)
  refine bodyPost_ret (v := .tuple #[.slice na nl nc, .agg #[.int .i64 12, .int .u64 cy, .int .i64 0, .int .i64 7, .int .i64 0, .int .i64 5, .int .i64 cy, .int .i64 0]]) (by simp [results, Try.results31, go_sem, r0, r1, r2, r3, r4, r5, r6, r7]) rfl ⟨_, rfl, ?_⟩
  have S9 := S8.front.front
  rw [HCS.out] at S9
  exact S9.front.front

set_option maxRecDepth 100000 in
set_option maxHeartbeats 4000000 in
theorem rst13 (c0 : 1 ≤ cy) (c1 : cy < 999999) :
    Calls Try.prog 31 #[.agg #[lv, .int .i64 n], cfgV c, mv, rdV ⟨13, cy, t, ek, ea, eb⟩, .int .i64 dr] w fun e w' => ∃ mv', e = .returned (.tuple #[mv', rdV (dtTell l 13 cy 0).2]) ∧ Has w0 w' (cs.set i (slC _ .u64 mv' (dtTell l 13 cy 0).1)) := by
  obtain ⟨la, lc, rfl⟩ := own_is (H.get q hq)
  obtain ⟨ma, mc, rfl, -, -⟩ := H.sl i hi
  have HQ := Lib.hid hq
  have HI := Lib.hid hi
  have hmu := h.mu
  clear hi hq
  unfold rdV cfgV cfgCells
  go_enter Try.func31, Try.ntmps31
  have G0 := (((H.blkNew #[.slice la c.things.length lc, .int .i64 n] 59).blkNew (cfgCells c) 61).blkNew #[.int .i64 13, .int .u64 cy, .int .i64 t, .int .i64 0, .int .i64 0, .int .i64 0, .int .i64 0, .int .i64 0] 64).blkNew #[.int .i64 0, .int .u64 0, .int .i64 0, .int .i64 0, .int .i64 0, .int .i64 0, .int .i64 0, .int .i64 0] 64
  have z1 : ∀ (w : World) o, (w.alloc o).heap.size = w.heap.size + 1 := fun w o => by simp
  simp only [z1] at G0
  clear z1
  go_wp2_with fail
  refine (rtellV G0 i 13 13 0 cy t 0 rfl rfl (get_app (get_app (get_app (get_app HI.out _) _) _) _) hl (by decide) (by omega) (by omega)).mono ?_
  rintro e w1 ⟨na, nl, nc, rfl, G1⟩
  rw [set_l2 _ _ _ _ (get_app (get_app HI.out _) _), set_l2 _ _ _ _ HI.out] at G1
  obtain ⟨B, hB⟩ : ∃ B, B = w.heap.size + 1 + 1 := ⟨_, rfl⟩
  obtain ⟨B1, hB1⟩ : ∃ B1, B1 = w.heap.size + 1 + 1 + 1 := ⟨_, rfl⟩
  obtain ⟨cs', hcs⟩ : ∃ cs', cs' = cs.set i (slC _ .u64 (.slice na nl nc) (mput l 0 (wPhase cy 0))) ++ [blkC _ w.heap.size #[.slice la c.things.length lc, .int .i64 n] 59] ++ [blkC _ (w.heap.size + 1) (cfgCells c) 61] := ⟨_, rfl⟩
  rw [← hB1, ← hB, ← hcs] at G1
  rw [← hB1, ← hB]
  have HCS := Lib.hid hcs
  have HBB : Hid (B ≠ B1) := Lib.hid (by omega)
  clear G0 hB hB1 hcs
  obtain ⟨b0, b1, b2, b3, b4, b5, b6, b7, fb⟩ := row8 (G1.get cs'.length (get_l2 cs' _ _).1)
  obtain ⟨r0, r1, r2, r3, r4, r5, r6, r7, fr⟩ := row8 (G1.get (cs'.length + 1) (get_l2 cs' _ _).2)
  have S0 := G1
  have q0 := S0.blkSet _ (get_l2 cs' _ _).2 0 (.int .i64 0)
  rw [set_l21] at q0
  have S1 : Has w0 _ (cs' ++ [blkC _ B #[.int .i64 13, .int .u64 cy, .int .i64 t, .int .i64 0, .int .i64 0, .int .i64 0, .int .i64 0, .int .i64 0] 64] ++ [blkC _ B1 #[.int .i64 0, .int .u64 0, .int .i64 0, .int .i64 0, .int .i64 0, .int .i64 0, .int .i64 0, .int .i64 0] 64]) := q0
  clear q0 S0
  have q1 := S1.blkSet _ (get_l2 cs' _ _).2 1 (.int .u64 cy)
  rw [set_l21] at q1
  have S2 : Has w0 _ (cs' ++ [blkC _ B #[.int .i64 13, .int .u64 cy, .int .i64 t, .int .i64 0, .int .i64 0, .int .i64 0, .int .i64 0, .int .i64 0] 64] ++ [blkC _ B1 #[.int .i64 0, .int .u64 cy, .int .i64 0, .int .i64 0, .int .i64 0, .int .i64 0, .int .i64 0, .int .i64 0] 64]) := q1
  clear q1 S1
  have q2 := S2.blkSet _ (get_l2 cs' _ _).2 2 (.int .i64 0)
  rw [set_l21] at q2
  have S3 : Has w0 _ (cs' ++ [blkC _ B #[.int .i64 13, .int .u64 cy, .int .i64 t, .int .i64 0, .int .i64 0, .int .i64 0, .int .i64 0, .int .i64 0] 64] ++ [blkC _ B1 #[.int .i64 0, .int .u64 cy, .int .i64 0, .int .i64 0, .int .i64 0, .int .i64 0, .int .i64 0, .int .i64 0] 64]) := q2
  clear q2 S2
  have q3 := S3.blkSet _ (get_l2 cs' _ _).2 3 (.int .i64 7)
  rw [set_l21] at q3
  have S4 : Has w0 _ (cs' ++ [blkC _ B #[.int .i64 13, .int .u64 cy, .int .i64 t, .int .i64 0, .int .i64 0, .int .i64 0, .int .i64 0, .int .i64 0] 64] ++ [blkC _ B1 #[.int .i64 0, .int .u64 cy, .int .i64 0, .int .i64 7, .int .i64 0, .int .i64 0, .int .i64 0, .int .i64 0] 64]) := q3
  clear q3 S3
  have q4 := S4.blkSet _ (get_l2 cs' _ _).2 4 (.int .i64 0)
  rw [set_l21] at q4
  have S5 : Has w0 _ (cs' ++ [blkC _ B #[.int .i64 13, .int .u64 cy, .int .i64 t, .int .i64 0, .int .i64 0, .int .i64 0, .int .i64 0, .int .i64 0] 64] ++ [blkC _ B1 #[.int .i64 0, .int .u64 cy, .int .i64 0, .int .i64 7, .int .i64 0, .int .i64 0, .int .i64 0, .int .i64 0] 64]) := q4
  clear q4 S4
  have q5 := S5.blkSet _ (get_l2 cs' _ _).2 5 (.int .i64 0)
  rw [set_l21] at q5
  have S6 : Has w0 _ (cs' ++ [blkC _ B #[.int .i64 13, .int .u64 cy, .int .i64 t, .int .i64 0, .int .i64 0, .int .i64 0, .int .i64 0, .int .i64 0] 64] ++ [blkC _ B1 #[.int .i64 0, .int .u64 cy, .int .i64 0, .int .i64 7, .int .i64 0, .int .i64 0, .int .i64 0, .int .i64 0] 64]) := q5
  clear q5 S5
  have q6 := S6.blkSet _ (get_l2 cs' _ _).2 6 (.int .i64 cy)
  rw [set_l21] at q6
  have S7 : Has w0 _ (cs' ++ [blkC _ B #[.int .i64 13, .int .u64 cy, .int .i64 t, .int .i64 0, .int .i64 0, .int .i64 0, .int .i64 0, .int .i64 0] 64] ++ [blkC _ B1 #[.int .i64 0, .int .u64 cy, .int .i64 0, .int .i64 7, .int .i64 0, .int .i64 0, .int .i64 cy, .int .i64 0] 64]) := q6
  clear q6 S6
  have q7 := S7.blkSet _ (get_l2 cs' _ _).2 7 (.int .i64 0)
  rw [set_l21] at q7
  have S8 : Has w0 _ (cs' ++ [blkC _ B #[.int .i64 13, .int .u64 cy, .int .i64 t, .int .i64 0, .int .i64 0, .int .i64 0, .int .i64 0, .int .i64 0] 64] ++ [blkC _ B1 #[.int .i64 0, .int .u64 cy, .int .i64 0, .int .i64 7, .int .i64 0, .int .i64 0, .int .i64 cy, .int .i64 0] 64]) := q7
  clear q7 S7
  go_wp2_with fail
  obtain ⟨r0, r1, r2, r3, r4, r5, r6, r7, fr⟩ := row8 (S8.get (cs'.length + 1) (get_l2 cs' _ _).2)
  refine bodyPost_ret (v := .tuple #[.slice na nl nc, .agg #[.int .i64 0, .int .u64 cy, .int .i64 0, .int .i64 7, .int .i64 0, .int .i64 0, .int .i64 cy, .int .i64 0]]) (by simp [results, Try.results31, go_sem, r0, r1, r2, r3, r4, r5, r6, r7]) rfl ⟨_, rfl, ?_⟩
  have S9 := S8.front.front
  rw [HCS.out] at S9
  exact S9.front.front

set_option maxRecDepth 100000 in
set_option maxHeartbeats 4000000 in
theorem rst0b (hdr : (dr.tmod 2 == 0) = false) (c0 : 0 ≤ cy) (c1 : cy < 999999) :
    Calls Try.prog 31 #[.agg #[lv, .int .i64 n], cfgV c, mv, rdV ⟨0, cy, t, ek, ea, eb⟩, .int .i64 dr] w fun e w' => ∃ mv', e = .returned (.tuple #[mv', rdV (dtTell l 0 (cy + 1) 1).2]) ∧ Has w0 w' (cs.set i (slC _ .u64 mv' (dtTell l 0 (cy + 1) 1).1)) := by
  obtain ⟨la, lc, rfl⟩ := own_is (H.get q hq)
  obtain ⟨ma, mc, rfl, -, -⟩ := H.sl i hi
  have HQ := Lib.hid hq
  have HI := Lib.hid hi
  have hmu := h.mu
  clear hi hq
  unfold rdV cfgV cfgCells
  go_enter Try.func31, Try.ntmps31
  have G0 := (((H.blkNew #[.slice la c.things.length lc, .int .i64 n] 59).blkNew (cfgCells c) 61).blkNew #[.int .i64 0, .int .u64 (cy + 1), .int .i64 t, .int .i64 0, .int .i64 0, .int .i64 0, .int .i64 0, .int .i64 0] 64).blkNew #[.int .i64 0, .int .u64 0, .int .i64 0, .int .i64 0, .int .i64 0, .int .i64 0, .int .i64 0, .int .i64 0] 64
  have z1 : ∀ (w : World) o, (w.alloc o).heap.size = w.heap.size + 1 := fun w o => by simp
  simp only [z1] at G0
  clear z1
  go_wp2_with fail
  refine (rtellV G0 i 0 0 1 (cy + 1) t 1 rfl rfl (get_app (get_app (get_app (get_app HI.out _) _) _) _) hl (by decide) (by omega) (by omega)).mono ?_
  rintro e w1 ⟨na, nl, nc, rfl, G1⟩
  rw [set_l2 _ _ _ _ (get_app (get_app HI.out _) _), set_l2 _ _ _ _ HI.out] at G1
  obtain ⟨B, hB⟩ : ∃ B, B = w.heap.size + 1 + 1 := ⟨_, rfl⟩
  obtain ⟨B1, hB1⟩ : ∃ B1, B1 = w.heap.size + 1 + 1 + 1 := ⟨_, rfl⟩
  obtain ⟨cs', hcs⟩ : ∃ cs', cs' = cs.set i (slC _ .u64 (.slice na nl nc) (mput l 0 (wPhase (cy + 1) 1))) ++ [blkC _ w.heap.size #[.slice la c.things.length lc, .int .i64 n] 59] ++ [blkC _ (w.heap.size + 1) (cfgCells c) 61] := ⟨_, rfl⟩
  rw [← hB1, ← hB, ← hcs] at G1
  rw [← hB1, ← hB]
  have HCS := Lib.hid hcs
  have HBB : Hid (B ≠ B1) := Lib.hid (by omega)
  clear G0 hB hB1 hcs
  obtain ⟨b0, b1, b2, b3, b4, b5, b6, b7, fb⟩ := row8 (G1.get cs'.length (get_l2 cs' _ _).1)
  obtain ⟨r0, r1, r2, r3, r4, r5, r6, r7, fr⟩ := row8 (G1.get (cs'.length + 1) (get_l2 cs' _ _).2)
  have S0 := G1
  have q0 := S0.blkSet _ (get_l2 cs' _ _).2 0 (.int .i64 1)
  rw [set_l21] at q0
  have S1 : Has w0 _ (cs' ++ [blkC _ B #[.int .i64 0, .int .u64 (cy + 1), .int .i64 t, .int .i64 0, .int .i64 0, .int .i64 0, .int .i64 0, .int .i64 0] 64] ++ [blkC _ B1 #[.int .i64 1, .int .u64 0, .int .i64 0, .int .i64 0, .int .i64 0, .int .i64 0, .int .i64 0, .int .i64 0] 64]) := q0
  clear q0 S0
  have q1 := S1.blkSet _ (get_l2 cs' _ _).2 1 (.int .u64 (cy + 1))
  rw [set_l21] at q1
  have S2 : Has w0 _ (cs' ++ [blkC _ B #[.int .i64 0, .int .u64 (cy + 1), .int .i64 t, .int .i64 0, .int .i64 0, .int .i64 0, .int .i64 0, .int .i64 0] 64] ++ [blkC _ B1 #[.int .i64 1, .int .u64 (cy + 1), .int .i64 0, .int .i64 0, .int .i64 0, .int .i64 0, .int .i64 0, .int .i64 0] 64]) := q1
  clear q1 S1
  have q2 := S2.blkSet _ (get_l2 cs' _ _).2 2 (.int .i64 0)
  rw [set_l21] at q2
  have S3 : Has w0 _ (cs' ++ [blkC _ B #[.int .i64 0, .int .u64 (cy + 1), .int .i64 t, .int .i64 0, .int .i64 0, .int .i64 0, .int .i64 0, .int .i64 0] 64] ++ [blkC _ B1 #[.int .i64 1, .int .u64 (cy + 1), .int .i64 0, .int .i64 0, .int .i64 0, .int .i64 0, .int .i64 0, .int .i64 0] 64]) := q2
  clear q2 S2
  have q3 := S3.blkSet _ (get_l2 cs' _ _).2 3 (.int .i64 7)
  rw [set_l21] at q3
  have S4 : Has w0 _ (cs' ++ [blkC _ B #[.int .i64 0, .int .u64 (cy + 1), .int .i64 t, .int .i64 0, .int .i64 0, .int .i64 0, .int .i64 0, .int .i64 0] 64] ++ [blkC _ B1 #[.int .i64 1, .int .u64 (cy + 1), .int .i64 0, .int .i64 7, .int .i64 0, .int .i64 0, .int .i64 0, .int .i64 0] 64]) := q3
  clear q3 S3
  have q4 := S4.blkSet _ (get_l2 cs' _ _).2 4 (.int .i64 0)
  rw [set_l21] at q4
  have S5 : Has w0 _ (cs' ++ [blkC _ B #[.int .i64 0, .int .u64 (cy + 1), .int .i64 t, .int .i64 0, .int .i64 0, .int .i64 0, .int .i64 0, .int .i64 0] 64] ++ [blkC _ B1 #[.int .i64 1, .int .u64 (cy + 1), .int .i64 0, .int .i64 7, .int .i64 0, .int .i64 0, .int .i64 0, .int .i64 0] 64]) := q4
  clear q4 S4
  have q5 := S5.blkSet _ (get_l2 cs' _ _).2 5 (.int .i64 1)
  rw [set_l21] at q5
  have S6 : Has w0 _ (cs' ++ [blkC _ B #[.int .i64 0, .int .u64 (cy + 1), .int .i64 t, .int .i64 0, .int .i64 0, .int .i64 0, .int .i64 0, .int .i64 0] 64] ++ [blkC _ B1 #[.int .i64 1, .int .u64 (cy + 1), .int .i64 0, .int .i64 7, .int .i64 0, .int .i64 1, .int .i64 0, .int .i64 0] 64]) := q5
  clear q5 S5
  have q6 := S6.blkSet _ (get_l2 cs' _ _).2 6 (.int .i64 (cy + 1))
  rw [set_l21] at q6
  have S7 : Has w0 _ (cs' ++ [blkC _ B #[.int .i64 0, .int .u64 (cy + 1), .int .i64 t, .int .i64 0, .int .i64 0, .int .i64 0, .int .i64 0, .int .i64 0] 64] ++ [blkC _ B1 #[.int .i64 1, .int .u64 (cy + 1), .int .i64 0, .int .i64 7, .int .i64 0, .int .i64 1, .int .i64 (cy + 1), .int .i64 0] 64]) := q6
  clear q6 S6
  have q7 := S7.blkSet _ (get_l2 cs' _ _).2 7 (.int .i64 0)
  rw [set_l21] at q7
  have S8 : Has w0 _ (cs' ++ [blkC _ B #[.int .i64 0, .int .u64 (cy + 1), .int .i64 t, .int .i64 0, .int .i64 0, .int .i64 0, .int .i64 0, .int .i64 0] 64] ++ [blkC _ B1 #[.int .i64 1, .int .u64 (cy + 1), .int .i64 0, .int .i64 7, .int .i64 0, .int .i64 1, .int .i64 (cy + 1), .int .i64 0] 64]) := q7
  clear q7 S7
  go_wp2_with fail
  obtain ⟨r0, r1, r2, r3, r4, r5, r6, r7, fr⟩ := row8 (S8.get (cs'.length + 1) (get_l2 cs' _ _).2)
  refine bodyPost_ret (v := .tuple #[.slice na nl nc, .agg #[.int .i64 1, .int .u64 (cy + 1), .int .i64 0, .int .i64 7, .int .i64 0, .int .i64 1, .int .i64 (cy + 1), .int .i64 0]]) (by simp [results, Try.results31, go_sem, r0, r1, r2, r3, r4, r5, r6, r7]) rfl ⟨_, rfl, ?_⟩
  have S9 := S8.front.front
  rw [HCS.out] at S9
  exact S9.front.front

set_option maxRecDepth 100000 in
set_option maxHeartbeats 4000000 in
theorem rst0a (hdr : (dr.tmod 2 == 0) = true) :
    Calls Try.prog 31 #[.agg #[lv, .int .i64 n], cfgV c, mv, rdV ⟨0, cy, t, ek, ea, eb⟩, .int .i64 dr] w fun e w' => e = .returned (.tuple #[mv, rdV ⟨0, cy, t, 0, 0, 0⟩]) ∧ Has w0 w' cs := by
  obtain ⟨la, lc, rfl⟩ := own_is (H.get q hq)
  obtain ⟨ma, mc, rfl, -, -⟩ := H.sl i hi
  have HQ := Lib.hid hq
  have HI := Lib.hid hi
  have hmu := h.mu
  clear hi hq
  unfold rdV cfgV cfgCells
  go_enter Try.func31, Try.ntmps31
  have G0 := (((H.blkNew #[.slice la c.things.length lc, .int .i64 n] 59).blkNew (cfgCells c) 61).blkNew #[.int .i64 0, .int .u64 cy, .int .i64 t, .int .i64 0, .int .i64 0, .int .i64 0, .int .i64 0, .int .i64 0] 64).blkNew #[.int .i64 0, .int .u64 0, .int .i64 0, .int .i64 0, .int .i64 0, .int .i64 0, .int .i64 0, .int .i64 0] 64
  have z1 : ∀ (w : World) o, (w.alloc o).heap.size = w.heap.size + 1 := fun w o => by simp
  simp only [z1] at G0
  clear z1
  go_wp2_with fail
  obtain ⟨w1, G1, eW⟩ := G0.name
  have eW2 := eW.out
  unfold cfgCells at eW2
  first | rw [← eW2] | rw [← eW.out]
  clear eW eW2
  obtain ⟨B, hB⟩ : ∃ B, B = w.heap.size + 1 + 1 := ⟨_, rfl⟩
  obtain ⟨B1, hB1⟩ : ∃ B1, B1 = w.heap.size + 1 + 1 + 1 := ⟨_, rfl⟩
  obtain ⟨cs', hcs⟩ : ∃ cs', cs' = cs ++ [blkC _ w.heap.size #[.slice la c.things.length lc, .int .i64 n] 59] ++ [blkC _ (w.heap.size + 1) (cfgCells c) 61] := ⟨_, rfl⟩
  rw [← hB1, ← hB, ← hcs] at G1
  rw [← hB1, ← hB]
  have HCS := Lib.hid hcs
  have HBB : Hid (B ≠ B1) := Lib.hid (by omega)
  clear G0 hB hB1 hcs
  obtain ⟨b0, b1, b2, b3, b4, b5, b6, b7, fb⟩ := row8 (G1.get cs'.length (get_l2 cs' _ _).1)
  obtain ⟨r0, r1, r2, r3, r4, r5, r6, r7, fr⟩ := row8 (G1.get (cs'.length + 1) (get_l2 cs' _ _).2)
  have S0 := G1
  have q0 := S0.blkSet _ (get_l2 cs' _ _).2 0 (.int .i64 0)
  rw [set_l21] at q0
  have S1 : Has w0 _ (cs' ++ [blkC _ B #[.int .i64 0, .int .u64 cy, .int .i64 t, .int .i64 0, .int .i64 0, .int .i64 0, .int .i64 0, .int .i64 0] 64] ++ [blkC _ B1 #[.int .i64 0, .int .u64 0, .int .i64 0, .int .i64 0, .int .i64 0, .int .i64 0, .int .i64 0, .int .i64 0] 64]) := q0
  clear q0 S0
  have q1 := S1.blkSet _ (get_l2 cs' _ _).2 1 (.int .u64 cy)
  rw [set_l21] at q1
  have S2 : Has w0 _ (cs' ++ [blkC _ B #[.int .i64 0, .int .u64 cy, .int .i64 t, .int .i64 0, .int .i64 0, .int .i64 0, .int .i64 0, .int .i64 0] 64] ++ [blkC _ B1 #[.int .i64 0, .int .u64 cy, .int .i64 0, .int .i64 0, .int .i64 0, .int .i64 0, .int .i64 0, .int .i64 0] 64]) := q1
  clear q1 S1
  have q2 := S2.blkSet _ (get_l2 cs' _ _).2 2 (.int .i64 t)
  rw [set_l21] at q2
  have S3 : Has w0 _ (cs' ++ [blkC _ B #[.int .i64 0, .int .u64 cy, .int .i64 t, .int .i64 0, .int .i64 0, .int .i64 0, .int .i64 0, .int .i64 0] 64] ++ [blkC _ B1 #[.int .i64 0, .int .u64 cy, .int .i64 t, .int .i64 0, .int .i64 0, .int .i64 0, .int .i64 0, .int .i64 0] 64]) := q2
  clear q2 S2
  have q3 := S3.blkSet _ (get_l2 cs' _ _).2 3 (.int .i64 0)
  rw [set_l21] at q3
  have S4 : Has w0 _ (cs' ++ [blkC _ B #[.int .i64 0, .int .u64 cy, .int .i64 t, .int .i64 0, .int .i64 0, .int .i64 0, .int .i64 0, .int .i64 0] 64] ++ [blkC _ B1 #[.int .i64 0, .int .u64 cy, .int .i64 t, .int .i64 0, .int .i64 0, .int .i64 0, .int .i64 0, .int .i64 0] 64]) := q3
  clear q3 S3
  have q4 := S4.blkSet _ (get_l2 cs' _ _).2 4 (.int .i64 0)
  rw [set_l21] at q4
  have S5 : Has w0 _ (cs' ++ [blkC _ B #[.int .i64 0, .int .u64 cy, .int .i64 t, .int .i64 0, .int .i64 0, .int .i64 0, .int .i64 0, .int .i64 0] 64] ++ [blkC _ B1 #[.int .i64 0, .int .u64 cy, .int .i64 t, .int .i64 0, .int .i64 0, .int .i64 0, .int .i64 0, .int .i64 0] 64]) := q4
  clear q4 S4
  have q5 := S5.blkSet _ (get_l2 cs' _ _).2 5 (.int .i64 0)
  rw [set_l21] at q5
  have S6 : Has w0 _ (cs' ++ [blkC _ B #[.int .i64 0, .int .u64 cy, .int .i64 t, .int .i64 0, .int .i64 0, .int .i64 0, .int .i64 0, .int .i64 0] 64] ++ [blkC _ B1 #[.int .i64 0, .int .u64 cy, .int .i64 t, .int .i64 0, .int .i64 0, .int .i64 0, .int .i64 0, .int .i64 0] 64]) := q5
  clear q5 S5
  have q6 := S6.blkSet _ (get_l2 cs' _ _).2 6 (.int .i64 0)
  rw [set_l21] at q6
  have S7 : Has w0 _ (cs' ++ [blkC _ B #[.int .i64 0, .int .u64 cy, .int .i64 t, .int .i64 0, .int .i64 0, .int .i64 0, .int .i64 0, .int .i64 0] 64] ++ [blkC _ B1 #[.int .i64 0, .int .u64 cy, .int .i64 t, .int .i64 0, .int .i64 0, .int .i64 0, .int .i64 0, .int .i64 0] 64]) := q6
  clear q6 S6
  have q7 := S7.blkSet _ (get_l2 cs' _ _).2 7 (.int .i64 0)
  rw [set_l21] at q7
  have S8 : Has w0 _ (cs' ++ [blkC _ B #[.int .i64 0, .int .u64 cy, .int .i64 t, .int .i64 0, .int .i64 0, .int .i64 0, .int .i64 0, .int .i64 0] 64] ++ [blkC _ B1 #[.int .i64 0, .int .u64 cy, .int .i64 t, .int .i64 0, .int .i64 0, .int .i64 0, .int .i64 0, .int .i64 0] 64]) := q7
  clear q7 S7
  go_region
  all_goals (go_wp2_with fail)
  obtain ⟨r0, r1, r2, r3, r4, r5, r6, r7, fr⟩ := row8 (S8.get (cs'.length + 1) (get_l2 cs' _ _).2)
  refine bodyPost_ret (v := .tuple #[.slice ma l.length mc, .agg #[.int .i64 0, .int .u64 cy, .int .i64 t, .int .i64 0, .int .i64 0, .int .i64 0, .int .i64 0, .int .i64 0]]) (by simp [results, Try.results31, go_sem, r0, r1, r2, r3, r4, r5, r6, r7]) rfl ⟨rfl, ?_⟩
  have S9 := S8.drew.front.front
  rw [HCS.out] at S9
  exact S9.front.front

set_option maxRecDepth 100000 in
set_option maxHeartbeats 4000000 in
theorem rst7a (hw : 0 < mld l 1) :
    Calls Try.prog 31 #[.agg #[lv, .int .i64 n], cfgV c, mv, rdV ⟨7, cy, t, ek, ea, eb⟩, .int .i64 dr] w fun e w' => e = .returned (.tuple #[mv, rdV ⟨7, cy, t, 0, 0, 0⟩]) ∧ Has w0 w' cs := by
  obtain ⟨K, hK⟩ : ∃ K, K = mld l 1 := ⟨_, rfl⟩
  rw [← hK] at hw
  have HK := Lib.hid hK
  clear hK
  obtain ⟨la, lc, rfl⟩ := own_is (H.get q hq)
  obtain ⟨ma, mc, rfl, -, -⟩ := H.sl i hi
  have HQ := Lib.hid hq
  have HI := Lib.hid hi
  have hmu := h.mu
  clear hi hq
  unfold rdV cfgV cfgCells
  go_enter Try.func31, Try.ntmps31
  have G0 := (((H.blkNew #[.slice la c.things.length lc, .int .i64 n] 59).blkNew (cfgCells c) 61).blkNew #[.int .i64 8, .int .u64 cy, .int .i64 t, .int .i64 0, .int .i64 0, .int .i64 0, .int .i64 0, .int .i64 0] 64).blkNew #[.int .i64 0, .int .u64 0, .int .i64 0, .int .i64 0, .int .i64 0, .int .i64 0, .int .i64 0, .int .i64 0] 64
  have z1 : ∀ (w : World) o, (w.alloc o).heap.size = w.heap.size + 1 := fun w o => by simp
  simp only [z1] at G0
  clear z1
  have G0b := (((H.blkNew #[.slice la c.things.length lc, .int .i64 n] 59).blkNew (cfgCells c) 61).blkNew #[.int .i64 7, .int .u64 cy, .int .i64 t, .int .i64 0, .int .i64 0, .int .i64 0, .int .i64 0, .int .i64 0] 64).blkNew #[.int .i64 0, .int .u64 0, .int .i64 0, .int .i64 0, .int .i64 0, .int .i64 0, .int .i64 0, .int .i64 0] 64
  have z1 : ∀ (w : World) o, (w.alloc o).heap.size = w.heap.size + 1 := fun w o => by simp
  simp only [z1] at G0b
  clear z1
  go_wp2_with fail
  refine (RLoad_h G0 i (get_app (get_app (get_app (get_app HI.out _) _) _) _) 1).mono ?_
  rw [← HK.out]
  rintro e w2 ⟨rfl, rfl⟩
  clear G0
  have G0 := G0b
  clear G0b
  go_wp2_with fail
  obtain ⟨w1, G1, eW⟩ := G0.name
  have eW2 := eW.out
  unfold cfgCells at eW2
  first | rw [← eW2] | rw [← eW.out]
  clear eW eW2
  obtain ⟨B, hB⟩ : ∃ B, B = w.heap.size + 1 + 1 := ⟨_, rfl⟩
  obtain ⟨B1, hB1⟩ : ∃ B1, B1 = w.heap.size + 1 + 1 + 1 := ⟨_, rfl⟩
  obtain ⟨cs', hcs⟩ : ∃ cs', cs' = cs ++ [blkC _ w.heap.size #[.slice la c.things.length lc, .int .i64 n] 59] ++ [blkC _ (w.heap.size + 1) (cfgCells c) 61] := ⟨_, rfl⟩
  rw [← hB1, ← hB, ← hcs] at G1
  rw [← hB1, ← hB]
  have HCS := Lib.hid hcs
  have HBB : Hid (B ≠ B1) := Lib.hid (by omega)
  clear G0 hB hB1 hcs
  obtain ⟨b0, b1, b2, b3, b4, b5, b6, b7, fb⟩ := row8 (G1.get cs'.length (get_l2 cs' _ _).1)
  obtain ⟨r0, r1, r2, r3, r4, r5, r6, r7, fr⟩ := row8 (G1.get (cs'.length + 1) (get_l2 cs' _ _).2)
  have S0 := G1
  have q0 := S0.blkSet _ (get_l2 cs' _ _).2 0 (.int .i64 7)
  rw [set_l21] at q0
  have S1 : Has w0 _ (cs' ++ [blkC _ B #[.int .i64 7, .int .u64 cy, .int .i64 t, .int .i64 0, .int .i64 0, .int .i64 0, .int .i64 0, .int .i64 0] 64] ++ [blkC _ B1 #[.int .i64 7, .int .u64 0, .int .i64 0, .int .i64 0, .int .i64 0, .int .i64 0, .int .i64 0, .int .i64 0] 64]) := q0
  clear q0 S0
  have q1 := S1.blkSet _ (get_l2 cs' _ _).2 1 (.int .u64 cy)
  rw [set_l21] at q1
  have S2 : Has w0 _ (cs' ++ [blkC _ B #[.int .i64 7, .int .u64 cy, .int .i64 t, .int .i64 0, .int .i64 0, .int .i64 0, .int .i64 0, .int .i64 0] 64] ++ [blkC _ B1 #[.int .i64 7, .int .u64 cy, .int .i64 0, .int .i64 0, .int .i64 0, .int .i64 0, .int .i64 0, .int .i64 0] 64]) := q1
  clear q1 S1
  have q2 := S2.blkSet _ (get_l2 cs' _ _).2 2 (.int .i64 t)
  rw [set_l21] at q2
  have S3 : Has w0 _ (cs' ++ [blkC _ B #[.int .i64 7, .int .u64 cy, .int .i64 t, .int .i64 0, .int .i64 0, .int .i64 0, .int .i64 0, .int .i64 0] 64] ++ [blkC _ B1 #[.int .i64 7, .int .u64 cy, .int .i64 t, .int .i64 0, .int .i64 0, .int .i64 0, .int .i64 0, .int .i64 0] 64]) := q2
  clear q2 S2
  have q3 := S3.blkSet _ (get_l2 cs' _ _).2 3 (.int .i64 0)
  rw [set_l21] at q3
  have S4 : Has w0 _ (cs' ++ [blkC _ B #[.int .i64 7, .int .u64 cy, .int .i64 t, .int .i64 0, .int .i64 0, .int .i64 0, .int .i64 0, .int .i64 0] 64] ++ [blkC _ B1 #[.int .i64 7, .int .u64 cy, .int .i64 t, .int .i64 0, .int .i64 0, .int .i64 0, .int .i64 0, .int .i64 0] 64]) := q3
  clear q3 S3
  have q4 := S4.blkSet _ (get_l2 cs' _ _).2 4 (.int .i64 0)
  rw [set_l21] at q4
  have S5 : Has w0 _ (cs' ++ [blkC _ B #[.int .i64 7, .int .u64 cy, .int .i64 t, .int .i64 0, .int .i64 0, .int .i64 0, .int .i64 0, .int .i64 0] 64] ++ [blkC _ B1 #[.int .i64 7, .int .u64 cy, .int .i64 t, .int .i64 0, .int .i64 0, .int .i64 0, .int .i64 0, .int .i64 0] 64]) := q4
  clear q4 S4
  have q5 := S5.blkSet _ (get_l2 cs' _ _).2 5 (.int .i64 0)
  rw [set_l21] at q5
  have S6 : Has w0 _ (cs' ++ [blkC _ B #[.int .i64 7, .int .u64 cy, .int .i64 t, .int .i64 0, .int .i64 0, .int .i64 0, .int .i64 0, .int .i64 0] 64] ++ [blkC _ B1 #[.int .i64 7, .int .u64 cy, .int .i64 t, .int .i64 0, .int .i64 0, .int .i64 0, .int .i64 0, .int .i64 0] 64]) := q5
  clear q5 S5
  have q6 := S6.blkSet _ (get_l2 cs' _ _).2 6 (.int .i64 0)
  rw [set_l21] at q6
  have S7 : Has w0 _ (cs' ++ [blkC _ B #[.int .i64 7, .int .u64 cy, .int .i64 t, .int .i64 0, .int .i64 0, .int .i64 0, .int .i64 0, .int .i64 0] 64] ++ [blkC _ B1 #[.int .i64 7, .int .u64 cy, .int .i64 t, .int .i64 0, .int .i64 0, .int .i64 0, .int .i64 0, .int .i64 0] 64]) := q6
  clear q6 S6
  have q7 := S7.blkSet _ (get_l2 cs' _ _).2 7 (.int .i64 0)
  rw [set_l21] at q7
  have S8 : Has w0 _ (cs' ++ [blkC _ B #[.int .i64 7, .int .u64 cy, .int .i64 t, .int .i64 0, .int .i64 0, .int .i64 0, .int .i64 0, .int .i64 0] 64] ++ [blkC _ B1 #[.int .i64 7, .int .u64 cy, .int .i64 t, .int .i64 0, .int .i64 0, .int .i64 0, .int .i64 0, .int .i64 0] 64]) := q7
  clear q7 S7
  go_region
  all_goals (go_wp2_with fail)
  obtain ⟨r0, r1, r2, r3, r4, r5, r6, r7, fr⟩ := row8 (S8.get (cs'.length + 1) (get_l2 cs' _ _).2)
  refine bodyPost_ret (v := .tuple #[.slice ma l.length mc, .agg #[.int .i64 7, .int .u64 cy, .int .i64 t, .int .i64 0, .int .i64 0, .int .i64 0, .int .i64 0, .int .i64 0]]) (by simp [results, Try.results31, go_sem, r0, r1, r2, r3, r4, r5, r6, r7]) rfl ⟨rfl, ?_⟩
  have S9 := S8.drew.front.front
  rw [HCS.out] at S9
  exact S9.front.front

set_option maxRecDepth 100000 in
set_option maxHeartbeats 4000000 in
theorem rst7b (hw : ¬ 0 < mld l 1) :
    Calls Try.prog 31 #[.agg #[lv, .int .i64 n], cfgV c, mv, rdV ⟨7, cy, t, ek, ea, eb⟩, .int .i64 dr] w fun e w' => e = .returned (.tuple #[mv, rdV ⟨8, cy, t, 0, 0, 0⟩]) ∧ Has w0 w' cs := by
  obtain ⟨K, hK⟩ : ∃ K, K = mld l 1 := ⟨_, rfl⟩
  rw [← hK] at hw
  have HK := Lib.hid hK
  clear hK
  obtain ⟨la, lc, rfl⟩ := own_is (H.get q hq)
  obtain ⟨ma, mc, rfl, -, -⟩ := H.sl i hi
  have HQ := Lib.hid hq
  have HI := Lib.hid hi
  have hmu := h.mu
  clear hi hq
  unfold rdV cfgV cfgCells
  go_enter Try.func31, Try.ntmps31
  have G0 := (((H.blkNew #[.slice la c.things.length lc, .int .i64 n] 59).blkNew (cfgCells c) 61).blkNew #[.int .i64 8, .int .u64 cy, .int .i64 t, .int .i64 0, .int .i64 0, .int .i64 0, .int .i64 0, .int .i64 0] 64).blkNew #[.int .i64 0, .int .u64 0, .int .i64 0, .int .i64 0, .int .i64 0, .int .i64 0, .int .i64 0, .int .i64 0] 64
  have z1 : ∀ (w : World) o, (w.alloc o).heap.size = w.heap.size + 1 := fun w o => by simp
  simp only [z1] at G0
  clear z1
  have G0b := (((H.blkNew #[.slice la c.things.length lc, .int .i64 n] 59).blkNew (cfgCells c) 61).blkNew #[.int .i64 8, .int .u64 cy, .int .i64 t, .int .i64 0, .int .i64 0, .int .i64 0, .int .i64 0, .int .i64 0] 64).blkNew #[.int .i64 0, .int .u64 0, .int .i64 0, .int .i64 0, .int .i64 0, .int .i64 0, .int .i64 0, .int .i64 0] 64
  have z1 : ∀ (w : World) o, (w.alloc o).heap.size = w.heap.size + 1 := fun w o => by simp
  simp only [z1] at G0b
  clear z1
  go_wp2_with fail
  refine (RLoad_h G0 i (get_app (get_app (get_app (get_app HI.out _) _) _) _) 1).mono ?_
  rw [← HK.out]
  rintro e w2 ⟨rfl, rfl⟩
  clear G0
  have G0 := G0b
  clear G0b
  go_wp2_with fail
  obtain ⟨w1, G1, eW⟩ := G0.name
  have eW2 := eW.out
  unfold cfgCells at eW2
  first | rw [← eW2] | rw [← eW.out]
  clear eW eW2
  obtain ⟨B, hB⟩ : ∃ B, B = w.heap.size + 1 + 1 := ⟨_, rfl⟩
  obtain ⟨B1, hB1⟩ : ∃ B1, B1 = w.heap.size + 1 + 1 + 1 := ⟨_, rfl⟩
  obtain ⟨cs', hcs⟩ : ∃ cs', cs' = cs ++ [blkC _ w.heap.size #[.slice la c.things.length lc, .int .i64 n] 59] ++ [blkC _ (w.heap.size + 1) (cfgCells c) 61] := ⟨_, rfl⟩
  rw [← hB1, ← hB, ← hcs] at G1
  rw [← hB1, ← hB]
  have HCS := Lib.hid hcs
  have HBB : Hid (B ≠ B1) := Lib.hid (by omega)
  clear G0 hB hB1 hcs
  obtain ⟨b0, b1, b2, b3, b4, b5, b6, b7, fb⟩ := row8 (G1.get cs'.length (get_l2 cs' _ _).1)
  obtain ⟨r0, r1, r2, r3, r4, r5, r6, r7, fr⟩ := row8 (G1.get (cs'.length + 1) (get_l2 cs' _ _).2)
  have S0 := G1
  have q0 := S0.blkSet _ (get_l2 cs' _ _).2 0 (.int .i64 8)
  rw [set_l21] at q0
  have S1 : Has w0 _ (cs' ++ [blkC _ B #[.int .i64 8, .int .u64 cy, .int .i64 t, .int .i64 0, .int .i64 0, .int .i64 0, .int .i64 0, .int .i64 0] 64] ++ [blkC _ B1 #[.int .i64 8, .int .u64 0, .int .i64 0, .int .i64 0, .int .i64 0, .int .i64 0, .int .i64 0, .int .i64 0] 64]) := q0
  clear q0 S0
  have q1 := S1.blkSet _ (get_l2 cs' _ _).2 1 (.int .u64 cy)
  rw [set_l21] at q1
  have S2 : Has w0 _ (cs' ++ [blkC _ B #[.int .i64 8, .int .u64 cy, .int .i64 t, .int .i64 0, .int .i64 0, .int .i64 0, .int .i64 0, .int .i64 0] 64] ++ [blkC _ B1 #[.int .i64 8, .int .u64 cy, .int .i64 0, .int .i64 0, .int .i64 0, .int .i64 0, .int .i64 0, .int .i64 0] 64]) := q1
  clear q1 S1
  have q2 := S2.blkSet _ (get_l2 cs' _ _).2 2 (.int .i64 t)
  rw [set_l21] at q2
  have S3 : Has w0 _ (cs' ++ [blkC _ B #[.int .i64 8, .int .u64 cy, .int .i64 t, .int .i64 0, .int .i64 0, .int .i64 0, .int .i64 0, .int .i64 0] 64] ++ [blkC _ B1 #[.int .i64 8, .int .u64 cy, .int .i64 t, .int .i64 0, .int .i64 0, .int .i64 0, .int .i64 0, .int .i64 0] 64]) := q2
  clear q2 S2
  have q3 := S3.blkSet _ (get_l2 cs' _ _).2 3 (.int .i64 0)
  rw [set_l21] at q3
  have S4 : Has w0 _ (cs' ++ [blkC _ B #[.int .i64 8, .int .u64 cy, .int .i64 t, .int .i64 0, .int .i64 0, .int .i64 0, .int .i64 0, .int .i64 0] 64] ++ [blkC _ B1 #[.int .i64 8, .int .u64 cy, .int .i64 t, .int .i64 0, .int .i64 0, .int .i64 0, .int .i64 0, .int .i64 0] 64]) := q3
  clear q3 S3
  have q4 := S4.blkSet _ (get_l2 cs' _ _).2 4 (.int .i64 0)
  rw [set_l21] at q4
  have S5 : Has w0 _ (cs' ++ [blkC _ B #[.int .i64 8, .int .u64 cy, .int .i64 t, .int .i64 0, .int .i64 0, .int .i64 0, .int .i64 0, .int .i64 0] 64] ++ [blkC _ B1 #[.int .i64 8, .int .u64 cy, .int .i64 t, .int .i64 0, .int .i64 0, .int .i64 0, .int .i64 0, .int .i64 0] 64]) := q4
  clear q4 S4
  have q5 := S5.blkSet _ (get_l2 cs' _ _).2 5 (.int .i64 0)
  rw [set_l21] at q5
  have S6 : Has w0 _ (cs' ++ [blkC _ B #[.int .i64 8, .int .u64 cy, .int .i64 t, .int .i64 0, .int .i64 0, .int .i64 0, .int .i64 0, .int .i64 0] 64] ++ [blkC _ B1 #[.int .i64 8, .int .u64 cy, .int .i64 t, .int .i64 0, .int .i64 0, .int .i64 0, .int .i64 0, .int .i64 0] 64]) := q5
  clear q5 S5
  have q6 := S6.blkSet _ (get_l2 cs' _ _).2 6 (.int .i64 0)
  rw [set_l21] at q6
  have S7 : Has w0 _ (cs' ++ [blkC _ B #[.int .i64 8, .int .u64 cy, .int .i64 t, .int .i64 0, .int .i64 0, .int .i64 0, .int .i64 0, .int .i64 0] 64] ++ [blkC _ B1 #[.int .i64 8, .int .u64 cy, .int .i64 t, .int .i64 0, .int .i64 0, .int .i64 0, .int .i64 0, .int .i64 0] 64]) := q6
  clear q6 S6
  have q7 := S7.blkSet _ (get_l2 cs' _ _).2 7 (.int .i64 0)
  rw [set_l21] at q7
  have S8 : Has w0 _ (cs' ++ [blkC _ B #[.int .i64 8, .int .u64 cy, .int .i64 t, .int .i64 0, .int .i64 0, .int .i64 0, .int .i64 0, .int .i64 0] 64] ++ [blkC _ B1 #[.int .i64 8, .int .u64 cy, .int .i64 t, .int .i64 0, .int .i64 0, .int .i64 0, .int .i64 0, .int .i64 0] 64]) := q7
  clear q7 S7
  go_region
  all_goals (go_wp2_with fail)
  obtain ⟨r0, r1, r2, r3, r4, r5, r6, r7, fr⟩ := row8 (S8.get (cs'.length + 1) (get_l2 cs' _ _).2)
  refine bodyPost_ret (v := .tuple #[.slice ma l.length mc, .agg #[.int .i64 8, .int .u64 cy, .int .i64 t, .int .i64 0, .int .i64 0, .int .i64 0, .int .i64 0, .int .i64 0]]) (by simp [results, Try.results31, go_sem, r0, r1, r2, r3, r4, r5, r6, r7]) rfl ⟨rfl, ?_⟩
  have S9 := S8.drew.front.front
  rw [HCS.out] at S9
  exact S9.front.front


set_option maxRecDepth 100000 in
set_option maxHeartbeats 4000000 in
theorem rst8a (hw : 0 < mld l 1) :
    Calls Try.prog 31 #[.agg #[lv, .int .i64 n], cfgV c, mv, rdV ⟨8, cy, t, ek, ea, eb⟩, .int .i64 dr] w fun e w' => e = .returned (.tuple #[mv, rdV ⟨7, cy, t, 0, 0, 0⟩]) ∧ Has w0 w' cs := by
  obtain ⟨K, hK⟩ : ∃ K, K = mld l 1 := ⟨_, rfl⟩
  rw [← hK] at hw
  have HK := Lib.hid hK
  clear hK
  obtain ⟨la, lc, rfl⟩ := own_is (H.get q hq)
  obtain ⟨ma, mc, rfl, -, -⟩ := H.sl i hi
  have HQ := Lib.hid hq
  have HI := Lib.hid hi
  have hmu := h.mu
  clear hi hq
  unfold rdV cfgV cfgCells
  go_enter Try.func31, Try.ntmps31
  have G0 := (((H.blkNew #[.slice la c.things.length lc, .int .i64 n] 59).blkNew (cfgCells c) 61).blkNew #[.int .i64 9, .int .u64 cy, .int .i64 t, .int .i64 0, .int .i64 0, .int .i64 0, .int .i64 0, .int .i64 0] 64).blkNew #[.int .i64 0, .int .u64 0, .int .i64 0, .int .i64 0, .int .i64 0, .int .i64 0, .int .i64 0, .int .i64 0] 64
  have z1 : ∀ (w : World) o, (w.alloc o).heap.size = w.heap.size + 1 := fun w o => by simp
  simp only [z1] at G0
  clear z1
  have G0b := (((H.blkNew #[.slice la c.things.length lc, .int .i64 n] 59).blkNew (cfgCells c) 61).blkNew #[.int .i64 7, .int .u64 cy, .int .i64 t, .int .i64 0, .int .i64 0, .int .i64 0, .int .i64 0, .int .i64 0] 64).blkNew #[.int .i64 0, .int .u64 0, .int .i64 0, .int .i64 0, .int .i64 0, .int .i64 0, .int .i64 0, .int .i64 0] 64
  have z1 : ∀ (w : World) o, (w.alloc o).heap.size = w.heap.size + 1 := fun w o => by simp
  simp only [z1] at G0b
  clear z1
  go_wp2_with fail
  refine (RLoad_h G0 i (get_app (get_app (get_app (get_app HI.out _) _) _) _) 1).mono ?_
  rw [← HK.out]
  rintro e w2 ⟨rfl, rfl⟩
  clear G0
  have G0 := G0b
  clear G0b
  go_wp2_with fail
  obtain ⟨w1, G1, eW⟩ := G0.name
  have eW2 := eW.out
  unfold cfgCells at eW2
  first | rw [← eW2] | rw [← eW.out]
  clear eW eW2
  obtain ⟨B, hB⟩ : ∃ B, B = w.heap.size + 1 + 1 := ⟨_, rfl⟩
  obtain ⟨B1, hB1⟩ : ∃ B1, B1 = w.heap.size + 1 + 1 + 1 := ⟨_, rfl⟩
  obtain ⟨cs', hcs⟩ : ∃ cs', cs' = cs ++ [blkC _ w.heap.size #[.slice la c.things.length lc, .int .i64 n] 59] ++ [blkC _ (w.heap.size + 1) (cfgCells c) 61] := ⟨_, rfl⟩
  rw [← hB1, ← hB, ← hcs] at G1
  rw [← hB1, ← hB]
  have HCS := Lib.hid hcs
  have HBB : Hid (B ≠ B1) := Lib.hid (by omega)
  clear G0 hB hB1 hcs
  obtain ⟨b0, b1, b2, b3, b4, b5, b6, b7, fb⟩ := row8 (G1.get cs'.length (get_l2 cs' _ _).1)
  obtain ⟨r0, r1, r2, r3, r4, r5, r6, r7, fr⟩ := row8 (G1.get (cs'.length + 1) (get_l2 cs' _ _).2)
  have S0 := G1
  have q0 := S0.blkSet _ (get_l2 cs' _ _).2 0 (.int .i64 7)
  rw [set_l21] at q0
  have S1 : Has w0 _ (cs' ++ [blkC _ B #[.int .i64 7, .int .u64 cy, .int .i64 t, .int .i64 0, .int .i64 0, .int .i64 0, .int .i64 0, .int .i64 0] 64] ++ [blkC _ B1 #[.int .i64 7, .int .u64 0, .int .i64 0, .int .i64 0, .int .i64 0, .int .i64 0, .int .i64 0, .int .i64 0] 64]) := q0
  clear q0 S0
  have q1 := S1.blkSet _ (get_l2 cs' _ _).2 1 (.int .u64 cy)
  rw [set_l21] at q1
  have S2 : Has w0 _ (cs' ++ [blkC _ B #[.int .i64 7, .int .u64 cy, .int .i64 t, .int .i64 0, .int .i64 0, .int .i64 0, .int .i64 0, .int .i64 0] 64] ++ [blkC _ B1 #[.int .i64 7, .int .u64 cy, .int .i64 0, .int .i64 0, .int .i64 0, .int .i64 0, .int .i64 0, .int .i64 0] 64]) := q1
  clear q1 S1
  have q2 := S2.blkSet _ (get_l2 cs' _ _).2 2 (.int .i64 t)
  rw [set_l21] at q2
  have S3 : Has w0 _ (cs' ++ [blkC _ B #[.int .i64 7, .int .u64 cy, .int .i64 t, .int .i64 0, .int .i64 0, .int .i64 0, .int .i64 0, .int .i64 0] 64] ++ [blkC _ B1 #[.int .i64 7, .int .u64 cy, .int .i64 t, .int .i64 0, .int .i64 0, .int .i64 0, .int .i64 0, .int .i64 0] 64]) := q2
  clear q2 S2
  have q3 := S3.blkSet _ (get_l2 cs' _ _).2 3 (.int .i64 0)
  rw [set_l21] at q3
  have S4 : Has w0 _ (cs' ++ [blkC _ B #[.int .i64 7, .int .u64 cy, .int .i64 t, .int .i64 0, .int .i64 0, .int .i64 0, .int .i64 0, .int .i64 0] 64] ++ [blkC _ B1 #[.int .i64 7, .int .u64 cy, .int .i64 t, .int .i64 0, .int .i64 0, .int .i64 0, .int .i64 0, .int .i64 0] 64]) := q3
  clear q3 S3
  have q4 := S4.blkSet _ (get_l2 cs' _ _).2 4 (.int .i64 0)
  rw [set_l21] at q4
  have S5 : Has w0 _ (cs' ++ [blkC _ B #[.int .i64 7, .int .u64 cy, .int .i64 t, .int .i64 0, .int .i64 0, .int .i64 0, .int .i64 0, .int .i64 0] 64] ++ [blkC _ B1 #[.int .i64 7, .int .u64 cy, .int .i64 t, .int .i64 0, .int .i64 0, .int .i64 0, .int .i64 0, .int .i64 0] 64]) := q4
  clear q4 S4
  have q5 := S5.blkSet _ (get_l2 cs' _ _).2 5 (.int .i64 0)
  rw [set_l21] at q5
  have S6 : Has w0 _ (cs' ++ [blkC _ B #[.int .i64 7, .int .u64 cy, .int .i64 t, .int .i64 0, .int .i64 0, .int .i64 0, .int .i64 0, .int .i64 0] 64] ++ [blkC _ B1 #[.int .i64 7, .int .u64 cy, .int .i64 t, .int .i64 0, .int .i64 0, .int .i64 0, .int .i64 0, .int .i64 0] 64]) := q5
  clear q5 S5
  have q6 := S6.blkSet _ (get_l2 cs' _ _).2 6 (.int .i64 0)
  rw [set_l21] at q6
  have S7 : Has w0 _ (cs' ++ [blkC _ B #[.int .i64 7, .int .u64 cy, .int .i64 t, .int .i64 0, .int .i64 0, .int .i64 0, .int .i64 0, .int .i64 0] 64] ++ [blkC _ B1 #[.int .i64 7, .int .u64 cy, .int .i64 t, .int .i64 0, .int .i64 0, .int .i64 0, .int .i64 0, .int .i64 0] 64]) := q6
  clear q6 S6
  have q7 := S7.blkSet _ (get_l2 cs' _ _).2 7 (.int .i64 0)
  rw [set_l21] at q7
  have S8 : Has w0 _ (cs' ++ [blkC _ B #[.int .i64 7, .int .u64 cy, .int .i64 t, .int .i64 0, .int .i64 0, .int .i64 0, .int .i64 0, .int .i64 0] 64] ++ [blkC _ B1 #[.int .i64 7, .int .u64 cy, .int .i64 t, .int .i64 0, .int .i64 0, .int .i64 0, .int .i64 0, .int .i64 0] 64]) := q7
  clear q7 S7
  go_region
  all_goals (go_wp2_with fail)
  obtain ⟨r0, r1, r2, r3, r4, r5, r6, r7, fr⟩ := row8 (S8.get (cs'.length + 1) (get_l2 cs' _ _).2)
  refine bodyPost_ret (v := .tuple #[.slice ma l.length mc, .agg #[.int .i64 7, .int .u64 cy, .int .i64 t, .int .i64 0, .int .i64 0, .int .i64 0, .int .i64 0, .int .i64 0]]) (by simp [results, Try.results31, go_sem, r0, r1, r2, r3, r4, r5, r6, r7]) rfl ⟨rfl, ?_⟩
  have S9 := S8.drew.front.front
  rw [HCS.out] at S9
  exact S9.front.front

set_option maxRecDepth 100000 in
set_option maxHeartbeats 4000000 in
theorem rst8b (hw : ¬ 0 < mld l 1) :
    Calls Try.prog 31 #[.agg #[lv, .int .i64 n], cfgV c, mv, rdV ⟨8, cy, t, ek, ea, eb⟩, .int .i64 dr] w fun e w' => e = .returned (.tuple #[mv, rdV ⟨9, cy, t, 0, 0, 0⟩]) ∧ Has w0 w' cs := by
  obtain ⟨K, hK⟩ : ∃ K, K = mld l 1 := ⟨_, rfl⟩
  rw [← hK] at hw
  have HK := Lib.hid hK
  clear hK
  obtain ⟨la, lc, rfl⟩ := own_is (H.get q hq)
  obtain ⟨ma, mc, rfl, -, -⟩ := H.sl i hi
  have HQ := Lib.hid hq
  have HI := Lib.hid hi
  have hmu := h.mu
  clear hi hq
  unfold rdV cfgV cfgCells
  go_enter Try.func31, Try.ntmps31
  have G0 := (((H.blkNew #[.slice la c.things.length lc, .int .i64 n] 59).blkNew (cfgCells c) 61).blkNew #[.int .i64 9, .int .u64 cy, .int .i64 t, .int .i64 0, .int .i64 0, .int .i64 0, .int .i64 0, .int .i64 0] 64).blkNew #[.int .i64 0, .int .u64 0, .int .i64 0, .int .i64 0, .int .i64 0, .int .i64 0, .int .i64 0, .int .i64 0] 64
  have z1 : ∀ (w : World) o, (w.alloc o).heap.size = w.heap.size + 1 := fun w o => by simp
  simp only [z1] at G0
  clear z1
  have G0b := (((H.blkNew #[.slice la c.things.length lc, .int .i64 n] 59).blkNew (cfgCells c) 61).blkNew #[.int .i64 9, .int .u64 cy, .int .i64 t, .int .i64 0, .int .i64 0, .int .i64 0, .int .i64 0, .int .i64 0] 64).blkNew #[.int .i64 0, .int .u64 0, .int .i64 0, .int .i64 0, .int .i64 0, .int .i64 0, .int .i64 0, .int .i64 0] 64
  have z1 : ∀ (w : World) o, (w.alloc o).heap.size = w.heap.size + 1 := fun w o => by simp
  simp only [z1] at G0b
  clear z1
  go_wp2_with fail
  refine (RLoad_h G0 i (get_app (get_app (get_app (get_app HI.out _) _) _) _) 1).mono ?_
  rw [← HK.out]
  rintro e w2 ⟨rfl, rfl⟩
  clear G0
  have G0 := G0b
  clear G0b
  go_wp2_with fail
  obtain ⟨w1, G1, eW⟩ := G0.name
  have eW2 := eW.out
  unfold cfgCells at eW2
  first | rw [← eW2] | rw [← eW.out]
  clear eW eW2
  obtain ⟨B, hB⟩ : ∃ B, B = w.heap.size + 1 + 1 := ⟨_, rfl⟩
  obtain ⟨B1, hB1⟩ : ∃ B1, B1 = w.heap.size + 1 + 1 + 1 := ⟨_, rfl⟩
  obtain ⟨cs', hcs⟩ : ∃ cs', cs' = cs ++ [blkC _ w.heap.size #[.slice la c.things.length lc, .int .i64 n] 59] ++ [blkC _ (w.heap.size + 1) (cfgCells c) 61] := ⟨_, rfl⟩
  rw [← hB1, ← hB, ← hcs] at G1
  rw [← hB1, ← hB]
  have HCS := Lib.hid hcs
  have HBB : Hid (B ≠ B1) := Lib.hid (by omega)
  clear G0 hB hB1 hcs
  obtain ⟨b0, b1, b2, b3, b4, b5, b6, b7, fb⟩ := row8 (G1.get cs'.length (get_l2 cs' _ _).1)
  obtain ⟨r0, r1, r2, r3, r4, r5, r6, r7, fr⟩ := row8 (G1.get (cs'.length + 1) (get_l2 cs' _ _).2)
  have S0 := G1
  have q0 := S0.blkSet _ (get_l2 cs' _ _).2 0 (.int .i64 9)
  rw [set_l21] at q0
  have S1 : Has w0 _ (cs' ++ [blkC _ B #[.int .i64 9, .int .u64 cy, .int .i64 t, .int .i64 0, .int .i64 0, .int .i64 0, .int .i64 0, .int .i64 0] 64] ++ [blkC _ B1 #[.int .i64 9, .int .u64 0, .int .i64 0, .int .i64 0, .int .i64 0, .int .i64 0, .int .i64 0, .int .i64 0] 64]) := q0
  clear q0 S0
  have q1 := S1.blkSet _ (get_l2 cs' _ _).2 1 (.int .u64 cy)
  rw [set_l21] at q1
  have S2 : Has w0 _ (cs' ++ [blkC _ B #[.int .i64 9, .int .u64 cy, .int .i64 t, .int .i64 0, .int .i64 0, .int .i64 0, .int .i64 0, .int .i64 0] 64] ++ [blkC _ B1 #[.int .i64 9, .int .u64 cy, .int .i64 0, .int .i64 0, .int .i64 0, .int .i64 0, .int .i64 0, .int .i64 0] 64]) := q1
  clear q1 S1
  have q2 := S2.blkSet _ (get_l2 cs' _ _).2 2 (.int .i64 t)
  rw [set_l21] at q2
  have S3 : Has w0 _ (cs' ++ [blkC _ B #[.int .i64 9, .int .u64 cy, .int .i64 t, .int .i64 0, .int .i64 0, .int .i64 0, .int .i64 0, .int .i64 0] 64] ++ [blkC _ B1 #[.int .i64 9, .int .u64 cy, .int .i64 t, .int .i64 0, .int .i64 0, .int .i64 0, .int .i64 0, .int .i64 0] 64]) := q2
  clear q2 S2
  have q3 := S3.blkSet _ (get_l2 cs' _ _).2 3 (.int .i64 0)
  rw [set_l21] at q3
  have S4 : Has w0 _ (cs' ++ [blkC _ B #[.int .i64 9, .int .u64 cy, .int .i64 t, .int .i64 0, .int .i64 0, .int .i64 0, .int .i64 0, .int .i64 0] 64] ++ [blkC _ B1 #[.int .i64 9, .int .u64 cy, .int .i64 t, .int .i64 0, .int .i64 0, .int .i64 0, .int .i64 0, .int .i64 0] 64]) := q3
  clear q3 S3
  have q4 := S4.blkSet _ (get_l2 cs' _ _).2 4 (.int .i64 0)
  rw [set_l21] at q4
  have S5 : Has w0 _ (cs' ++ [blkC _ B #[.int .i64 9, .int .u64 cy, .int .i64 t, .int .i64 0, .int .i64 0, .int .i64 0, .int .i64 0, .int .i64 0] 64] ++ [blkC _ B1 #[.int .i64 9, .int .u64 cy, .int .i64 t, .int .i64 0, .int .i64 0, .int .i64 0, .int .i64 0, .int .i64 0] 64]) := q4
  clear q4 S4
  have q5 := S5.blkSet _ (get_l2 cs' _ _).2 5 (.int .i64 0)
  rw [set_l21] at q5
  have S6 : Has w0 _ (cs' ++ [blkC _ B #[.int .i64 9, .int .u64 cy, .int .i64 t, .int .i64 0, .int .i64 0, .int .i64 0, .int .i64 0, .int .i64 0] 64] ++ [blkC _ B1 #[.int .i64 9, .int .u64 cy, .int .i64 t, .int .i64 0, .int .i64 0, .int .i64 0, .int .i64 0, .int .i64 0] 64]) := q5
  clear q5 S5
  have q6 := S6.blkSet _ (get_l2 cs' _ _).2 6 (.int .i64 0)
  rw [set_l21] at q6
  have S7 : Has w0 _ (cs' ++ [blkC _ B #[.int .i64 9, .int .u64 cy, .int .i64 t, .int .i64 0, .int .i64 0, .int .i64 0, .int .i64 0, .int .i64 0] 64] ++ [blkC _ B1 #[.int .i64 9, .int .u64 cy, .int .i64 t, .int .i64 0, .int .i64 0, .int .i64 0, .int .i64 0, .int .i64 0] 64]) := q6
  clear q6 S6
  have q7 := S7.blkSet _ (get_l2 cs' _ _).2 7 (.int .i64 0)
  rw [set_l21] at q7
  have S8 : Has w0 _ (cs' ++ [blkC _ B #[.int .i64 9, .int .u64 cy, .int .i64 t, .int .i64 0, .int .i64 0, .int .i64 0, .int .i64 0, .int .i64 0] 64] ++ [blkC _ B1 #[.int .i64 9, .int .u64 cy, .int .i64 t, .int .i64 0, .int .i64 0, .int .i64 0, .int .i64 0, .int .i64 0] 64]) := q7
  clear q7 S7
  go_region
  all_goals (go_wp2_with fail)
  obtain ⟨r0, r1, r2, r3, r4, r5, r6, r7, fr⟩ := row8 (S8.get (cs'.length + 1) (get_l2 cs' _ _).2)
  refine bodyPost_ret (v := .tuple #[.slice ma l.length mc, .agg #[.int .i64 9, .int .u64 cy, .int .i64 t, .int .i64 0, .int .i64 0, .int .i64 0, .int .i64 0, .int .i64 0]]) (by simp [results, Try.results31, go_sem, r0, r1, r2, r3, r4, r5, r6, r7]) rfl ⟨rfl, ?_⟩
  have S9 := S8.drew.front.front
  rw [HCS.out] at S9
  exact S9.front.front


set_option maxRecDepth 100000 in
set_option maxHeartbeats 4000000 in
theorem rst9 (c0 : 1 ≤ cy) (c1 : cy < 999999) :
    Calls Try.prog 31 #[.agg #[lv, .int .i64 n], cfgV c, mv, rdV ⟨9, cy, t, ek, ea, eb⟩, .int .i64 dr] w fun e w' => ∃ mv', e = .returned (.tuple #[mv', rdV ⟨10, cy, t, 0, 0, 0⟩]) ∧ Has w0 w' (cs.set i (slC _ .u64 mv' (mput l 2 (cy * 4294967296)))) := by
  have hcw : IntKind.u32.wrap cy = cy := by rw [IntKind.wrap_u32]; omega
  obtain ⟨la, lc, rfl⟩ := own_is (H.get q hq)
  obtain ⟨ma, mc, rfl, -, -⟩ := H.sl i hi
  have HQ := Lib.hid hq
  have HI := Lib.hid hi
  have hmu := h.mu
  clear hi hq
  unfold rdV cfgV cfgCells
  go_enter Try.func31, Try.ntmps31
  have G0 := (((H.blkNew #[.slice la c.things.length lc, .int .i64 n] 59).blkNew (cfgCells c) 61).blkNew #[.int .i64 10, .int .u64 cy, .int .i64 t, .int .i64 0, .int .i64 0, .int .i64 0, .int .i64 0, .int .i64 0] 64).blkNew #[.int .i64 0, .int .u64 0, .int .i64 0, .int .i64 0, .int .i64 0, .int .i64 0, .int .i64 0, .int .i64 0] 64
  have z1 : ∀ (w : World) o, (w.alloc o).heap.size = w.heap.size + 1 := fun w o => by simp
  simp only [z1] at G0
  clear z1
  go_wp2_with fail
  obtain ⟨w1, G1, eW⟩ := G0.name
  have eW2 := eW.out
  unfold cfgCells at eW2
  first | rw [← eW2] | rw [← eW.out]
  clear eW eW2
  obtain ⟨B, hB⟩ : ∃ B, B = w.heap.size + 1 + 1 := ⟨_, rfl⟩
  obtain ⟨B1, hB1⟩ : ∃ B1, B1 = w.heap.size + 1 + 1 + 1 := ⟨_, rfl⟩
  obtain ⟨cs', hcs⟩ : ∃ cs', cs' = cs ++ [blkC _ w.heap.size #[.slice la c.things.length lc, .int .i64 n] 59] ++ [blkC _ (w.heap.size + 1) (cfgCells c) 61] := ⟨_, rfl⟩
  rw [← hB1, ← hB, ← hcs] at G1
  rw [← hB1, ← hB]
  have HCS := Lib.hid hcs
  have HBB : Hid (B ≠ B1) := Lib.hid (by omega)
  clear G0 hB hB1 hcs
  obtain ⟨b0, b1, b2, b3, b4, b5, b6, b7, fb⟩ := row8 (G1.get cs'.length (get_l2 cs' _ _).1)
  obtain ⟨r0, r1, r2, r3, r4, r5, r6, r7, fr⟩ := row8 (G1.get (cs'.length + 1) (get_l2 cs' _ _).2)
  have hBB : B ≠ B1 := HBB.out
  have HI2 : Hid (cs'[i]? = some (slC _ .u64 (.slice ma l.length mc) l)) := Lib.hid (by rw [HCS.out]; exact get_app (get_app HI.out _) _)
  go_region_held3 (fun w' => w'.cell? ⟨B, 0, none⟩ = some (.int .i64 10) ∧ w'.cell? ⟨B, 1, none⟩ = some (.int .u64 cy) ∧ w'.cell? ⟨B, 2, none⟩ = some (.int .i64 t) ∧ w'.cell? ⟨B, 3, none⟩ = some (.int .i64 0) ∧ w'.cell? ⟨B, 4, none⟩ = some (.int .i64 0) ∧ w'.cell? ⟨B, 5, none⟩ = some (.int .i64 0) ∧ w'.cell? ⟨B, 6, none⟩ = some (.int .i64 0) ∧ w'.cell? ⟨B, 7, none⟩ = some (.int .i64 0)) (refine ⟨?_, ?_, ?_, ?_, ?_, ?_, ?_, ?_⟩ <;> (first | (with_reducible assumption) | (simp only [cell_drewN1, cell_drew1, set_other21 hBB]; with_reducible assumption))) (first | (go_at_call 57; refine (RPair0 cy (by omega) (by omega) _).mono ?_; rintro e w3 ⟨rfl, d1, rfl⟩) | (go_at_call 29; (first | refine (RPut_h G1 i (get_app (get_app HI2.out _) _) 2 (cy * 4294967296) hl).mono ?_ | refine (RPut_h (G1.drewN _) i (get_app (get_app HI2.out _) _) 2 (cy * 4294967296) hl).mono ?_); rintro e w2 ⟨mv', rfl, G2'⟩; have G2 := G2'; rw [set_l2 _ _ _ _ HI2.out] at G2; obtain ⟨b0, b1, b2, b3, b4, b5, b6, b7, fb⟩ := row8 (G2.get (cs'.set i _).length (get_l2 _ _ _).1); obtain ⟨r0, r1, r2, r3, r4, r5, r6, r7, fr⟩ := row8 (G2.get ((cs'.set i _).length + 1) (get_l2 _ _ _).2)))
  obtain ⟨ct, hct⟩ : ∃ ct, ct = cs'.set i (slC _ .u64 mv' (mput l 2 (cy * 4294967296))) := ⟨_, rfl⟩
  rw [← hct] at G2
  have hci : ct[i]? = some (slC _ .u64 mv' (mput l 2 (cy * 4294967296))) := by rw [hct]; exact lset21 HI2.out _
  have HCT := Lib.hid hct
  clear hct
  obtain ⟨na, nc, rfl, -, -⟩ := G2.sl i (get_app (get_app hci _) _)
  clear hci G1 b0 b1 b2 b3 b4 b5 b6 b7 fb r0 r1 r2 r3 r4 r5 r6 r7 fr
  have S0 := G2
  have q0 := S0.blkSet _ (get_l2 ct _ _).2 0 (.int .i64 10)
  rw [set_l21] at q0
  have S1 : Has w0 _ (ct ++ [blkC _ B #[.int .i64 10, .int .u64 cy, .int .i64 t, .int .i64 0, .int .i64 0, .int .i64 0, .int .i64 0, .int .i64 0] 64] ++ [blkC _ B1 #[.int .i64 10, .int .u64 0, .int .i64 0, .int .i64 0, .int .i64 0, .int .i64 0, .int .i64 0, .int .i64 0] 64]) := q0
  clear q0 S0
  have q1 := S1.blkSet _ (get_l2 ct _ _).2 1 (.int .u64 cy)
  rw [set_l21] at q1
  have S2 : Has w0 _ (ct ++ [blkC _ B #[.int .i64 10, .int .u64 cy, .int .i64 t, .int .i64 0, .int .i64 0, .int .i64 0, .int .i64 0, .int .i64 0] 64] ++ [blkC _ B1 #[.int .i64 10, .int .u64 cy, .int .i64 0, .int .i64 0, .int .i64 0, .int .i64 0, .int .i64 0, .int .i64 0] 64]) := q1
  clear q1 S1
  have q2 := S2.blkSet _ (get_l2 ct _ _).2 2 (.int .i64 t)
  rw [set_l21] at q2
  have S3 : Has w0 _ (ct ++ [blkC _ B #[.int .i64 10, .int .u64 cy, .int .i64 t, .int .i64 0, .int .i64 0, .int .i64 0, .int .i64 0, .int .i64 0] 64] ++ [blkC _ B1 #[.int .i64 10, .int .u64 cy, .int .i64 t, .int .i64 0, .int .i64 0, .int .i64 0, .int .i64 0, .int .i64 0] 64]) := q2
  clear q2 S2
  have q3 := S3.blkSet _ (get_l2 ct _ _).2 3 (.int .i64 0)
  rw [set_l21] at q3
  have S4 : Has w0 _ (ct ++ [blkC _ B #[.int .i64 10, .int .u64 cy, .int .i64 t, .int .i64 0, .int .i64 0, .int .i64 0, .int .i64 0, .int .i64 0] 64] ++ [blkC _ B1 #[.int .i64 10, .int .u64 cy, .int .i64 t, .int .i64 0, .int .i64 0, .int .i64 0, .int .i64 0, .int .i64 0] 64]) := q3
  clear q3 S3
  have q4 := S4.blkSet _ (get_l2 ct _ _).2 4 (.int .i64 0)
  rw [set_l21] at q4
  have S5 : Has w0 _ (ct ++ [blkC _ B #[.int .i64 10, .int .u64 cy, .int .i64 t, .int .i64 0, .int .i64 0, .int .i64 0, .int .i64 0, .int .i64 0] 64] ++ [blkC _ B1 #[.int .i64 10, .int .u64 cy, .int .i64 t, .int .i64 0, .int .i64 0, .int .i64 0, .int .i64 0, .int .i64 0] 64]) := q4
  clear q4 S4
  have q5 := S5.blkSet _ (get_l2 ct _ _).2 5 (.int .i64 0)
  rw [set_l21] at q5
  have S6 : Has w0 _ (ct ++ [blkC _ B #[.int .i64 10, .int .u64 cy, .int .i64 t, .int .i64 0, .int .i64 0, .int .i64 0, .int .i64 0, .int .i64 0] 64] ++ [blkC _ B1 #[.int .i64 10, .int .u64 cy, .int .i64 t, .int .i64 0, .int .i64 0, .int .i64 0, .int .i64 0, .int .i64 0] 64]) := q5
  clear q5 S5
  have q6 := S6.blkSet _ (get_l2 ct _ _).2 6 (.int .i64 0)
  rw [set_l21] at q6
  have S7 : Has w0 _ (ct ++ [blkC _ B #[.int .i64 10, .int .u64 cy, .int .i64 t, .int .i64 0, .int .i64 0, .int .i64 0, .int .i64 0, .int .i64 0] 64] ++ [blkC _ B1 #[.int .i64 10, .int .u64 cy, .int .i64 t, .int .i64 0, .int .i64 0, .int .i64 0, .int .i64 0, .int .i64 0] 64]) := q6
  clear q6 S6
  have q7 := S7.blkSet _ (get_l2 ct _ _).2 7 (.int .i64 0)
  rw [set_l21] at q7
  have S8 : Has w0 _ (ct ++ [blkC _ B #[.int .i64 10, .int .u64 cy, .int .i64 t, .int .i64 0, .int .i64 0, .int .i64 0, .int .i64 0, .int .i64 0] 64] ++ [blkC _ B1 #[.int .i64 10, .int .u64 cy, .int .i64 t, .int .i64 0, .int .i64 0, .int .i64 0, .int .i64 0, .int .i64 0] 64]) := q7
  clear q7 S7
  go_wp2_with fail
  obtain ⟨r0, r1, r2, r3, r4, r5, r6, r7, fr⟩ := row8 (S8.get (ct.length + 1) (get_l2 ct _ _).2)
  refine bodyPost_ret (v := .tuple #[.slice na (mput l 2 (cy * 4294967296)).length nc, .agg #[.int .i64 10, .int .u64 cy, .int .i64 t, .int .i64 0, .int .i64 0, .int .i64 0, .int .i64 0, .int .i64 0]]) (by simp [results, Try.results31, go_sem, r0, r1, r2, r3, r4, r5, r6, r7]) rfl ⟨_, rfl, ?_⟩
  have S9 := S8.front.front
  rw [HCT.out, HCS.out, set_l2 _ _ _ _ HI.out] at S9
  exact S9.front.front

set_option maxRecDepth 100000 in
set_option maxHeartbeats 4000000 in
theorem rst10 (c0 : 1 ≤ cy) (c1 : cy < 999999) :
    Calls Try.prog 31 #[.agg #[lv, .int .i64 n], cfgV c, mv, rdV ⟨10, cy, t, ek, ea, eb⟩, .int .i64 dr] w fun e w' => ∃ mv', e = .returned (.tuple #[mv', rdV ⟨11, cy, t, 0, 0, 0⟩]) ∧ Has w0 w' (cs.set i (slC _ .u64 mv' (mput l 3 (0)))) := by
  have hcw : IntKind.u32.wrap cy = cy := by rw [IntKind.wrap_u32]; omega
  obtain ⟨la, lc, rfl⟩ := own_is (H.get q hq)
  obtain ⟨ma, mc, rfl, -, -⟩ := H.sl i hi
  have HQ := Lib.hid hq
  have HI := Lib.hid hi
  have hmu := h.mu
  clear hi hq
  unfold rdV cfgV cfgCells
  go_enter Try.func31, Try.ntmps31
  have G0 := (((H.blkNew #[.slice la c.things.length lc, .int .i64 n] 59).blkNew (cfgCells c) 61).blkNew #[.int .i64 11, .int .u64 cy, .int .i64 t, .int .i64 0, .int .i64 0, .int .i64 0, .int .i64 0, .int .i64 0] 64).blkNew #[.int .i64 0, .int .u64 0, .int .i64 0, .int .i64 0, .int .i64 0, .int .i64 0, .int .i64 0, .int .i64 0] 64
  have z1 : ∀ (w : World) o, (w.alloc o).heap.size = w.heap.size + 1 := fun w o => by simp
  simp only [z1] at G0
  clear z1
  go_wp2_with fail
  obtain ⟨w1, G1, eW⟩ := G0.name
  have eW2 := eW.out
  unfold cfgCells at eW2
  first | rw [← eW2] | rw [← eW.out]
  clear eW eW2
  obtain ⟨B, hB⟩ : ∃ B, B = w.heap.size + 1 + 1 := ⟨_, rfl⟩
  obtain ⟨B1, hB1⟩ : ∃ B1, B1 = w.heap.size + 1 + 1 + 1 := ⟨_, rfl⟩
  obtain ⟨cs', hcs⟩ : ∃ cs', cs' = cs ++ [blkC _ w.heap.size #[.slice la c.things.length lc, .int .i64 n] 59] ++ [blkC _ (w.heap.size + 1) (cfgCells c) 61] := ⟨_, rfl⟩
  rw [← hB1, ← hB, ← hcs] at G1
  rw [← hB1, ← hB]
  have HCS := Lib.hid hcs
  have HBB : Hid (B ≠ B1) := Lib.hid (by omega)
  clear G0 hB hB1 hcs
  obtain ⟨b0, b1, b2, b3, b4, b5, b6, b7, fb⟩ := row8 (G1.get cs'.length (get_l2 cs' _ _).1)
  obtain ⟨r0, r1, r2, r3, r4, r5, r6, r7, fr⟩ := row8 (G1.get (cs'.length + 1) (get_l2 cs' _ _).2)
  have hBB : B ≠ B1 := HBB.out
  have HI2 : Hid (cs'[i]? = some (slC _ .u64 (.slice ma l.length mc) l)) := Lib.hid (by rw [HCS.out]; exact get_app (get_app HI.out _) _)
  go_region_held3 (fun w' => w'.cell? ⟨B, 0, none⟩ = some (.int .i64 11) ∧ w'.cell? ⟨B, 1, none⟩ = some (.int .u64 cy) ∧ w'.cell? ⟨B, 2, none⟩ = some (.int .i64 t) ∧ w'.cell? ⟨B, 3, none⟩ = some (.int .i64 0) ∧ w'.cell? ⟨B, 4, none⟩ = some (.int .i64 0) ∧ w'.cell? ⟨B, 5, none⟩ = some (.int .i64 0) ∧ w'.cell? ⟨B, 6, none⟩ = some (.int .i64 0) ∧ w'.cell? ⟨B, 7, none⟩ = some (.int .i64 0)) (refine ⟨?_, ?_, ?_, ?_, ?_, ?_, ?_, ?_⟩ <;> (first | (with_reducible assumption) | (simp only [cell_drewN1, cell_drew1, set_other21 hBB]; with_reducible assumption))) (first | (go_at_call 29; (first | refine (RPut_h G1 i (get_app (get_app HI2.out _) _) 3 (0) hl).mono ?_ | refine (RPut_h (G1.drewN _) i (get_app (get_app HI2.out _) _) 3 (0) hl).mono ?_); rintro e w2 ⟨mv', rfl, G2'⟩; have G2 := G2'; rw [set_l2 _ _ _ _ HI2.out] at G2; obtain ⟨b0, b1, b2, b3, b4, b5, b6, b7, fb⟩ := row8 (G2.get (cs'.set i _).length (get_l2 _ _ _).1); obtain ⟨r0, r1, r2, r3, r4, r5, r6, r7, fr⟩ := row8 (G2.get ((cs'.set i _).length + 1) (get_l2 _ _ _).2)))
  obtain ⟨ct, hct⟩ : ∃ ct, ct = cs'.set i (slC _ .u64 mv' (mput l 3 (0))) := ⟨_, rfl⟩
  rw [← hct] at G2
  have hci : ct[i]? = some (slC _ .u64 mv' (mput l 3 (0))) := by rw [hct]; exact lset21 HI2.out _
  have HCT := Lib.hid hct
  clear hct
  obtain ⟨na, nc, rfl, -, -⟩ := G2.sl i (get_app (get_app hci _) _)
  clear hci G1 b0 b1 b2 b3 b4 b5 b6 b7 fb r0 r1 r2 r3 r4 r5 r6 r7 fr
  have S0 := G2
  have q0 := S0.blkSet _ (get_l2 ct _ _).2 0 (.int .i64 11)
  rw [set_l21] at q0
  have S1 : Has w0 _ (ct ++ [blkC _ B #[.int .i64 11, .int .u64 cy, .int .i64 t, .int .i64 0, .int .i64 0, .int .i64 0, .int .i64 0, .int .i64 0] 64] ++ [blkC _ B1 #[.int .i64 11, .int .u64 0, .int .i64 0, .int .i64 0, .int .i64 0, .int .i64 0, .int .i64 0, .int .i64 0] 64]) := q0
  clear q0 S0
  have q1 := S1.blkSet _ (get_l2 ct _ _).2 1 (.int .u64 cy)
  rw [set_l21] at q1
  have S2 : Has w0 _ (ct ++ [blkC _ B #[.int .i64 11, .int .u64 cy, .int .i64 t, .int .i64 0, .int .i64 0, .int .i64 0, .int .i64 0, .int .i64 0] 64] ++ [blkC _ B1 #[.int .i64 11, .int .u64 cy, .int .i64 0, .int .i64 0, .int .i64 0, .int .i64 0, .int .i64 0, .int .i64 0] 64]) := q1
  clear q1 S1
  have q2 := S2.blkSet _ (get_l2 ct _ _).2 2 (.int .i64 t)
  rw [set_l21] at q2
  have S3 : Has w0 _ (ct ++ [blkC _ B #[.int .i64 11, .int .u64 cy, .int .i64 t, .int .i64 0, .int .i64 0, .int .i64 0, .int .i64 0, .int .i64 0] 64] ++ [blkC _ B1 #[.int .i64 11, .int .u64 cy, .int .i64 t, .int .i64 0, .int .i64 0, .int .i64 0, .int .i64 0, .int .i64 0] 64]) := q2
  clear q2 S2
  have q3 := S3.blkSet _ (get_l2 ct _ _).2 3 (.int .i64 0)
  rw [set_l21] at q3
  have S4 : Has w0 _ (ct ++ [blkC _ B #[.int .i64 11, .int .u64 cy, .int .i64 t, .int .i64 0, .int .i64 0, .int .i64 0, .int .i64 0, .int .i64 0] 64] ++ [blkC _ B1 #[.int .i64 11, .int .u64 cy, .int .i64 t, .int .i64 0, .int .i64 0, .int .i64 0, .int .i64 0, .int .i64 0] 64]) := q3
  clear q3 S3
  have q4 := S4.blkSet _ (get_l2 ct _ _).2 4 (.int .i64 0)
  rw [set_l21] at q4
  have S5 : Has w0 _ (ct ++ [blkC _ B #[.int .i64 11, .int .u64 cy, .int .i64 t, .int .i64 0, .int .i64 0, .int .i64 0, .int .i64 0, .int .i64 0] 64] ++ [blkC _ B1 #[.int .i64 11, .int .u64 cy, .int .i64 t, .int .i64 0, .int .i64 0, .int .i64 0, .int .i64 0, .int .i64 0] 64]) := q4
  clear q4 S4
  have q5 := S5.blkSet _ (get_l2 ct _ _).2 5 (.int .i64 0)
  rw [set_l21] at q5
  have S6 : Has w0 _ (ct ++ [blkC _ B #[.int .i64 11, .int .u64 cy, .int .i64 t, .int .i64 0, .int .i64 0, .int .i64 0, .int .i64 0, .int .i64 0] 64] ++ [blkC _ B1 #[.int .i64 11, .int .u64 cy, .int .i64 t, .int .i64 0, .int .i64 0, .int .i64 0, .int .i64 0, .int .i64 0] 64]) := q5
  clear q5 S5
  have q6 := S6.blkSet _ (get_l2 ct _ _).2 6 (.int .i64 0)
  rw [set_l21] at q6
  have S7 : Has w0 _ (ct ++ [blkC _ B #[.int .i64 11, .int .u64 cy, .int .i64 t, .int .i64 0, .int .i64 0, .int .i64 0, .int .i64 0, .int .i64 0] 64] ++ [blkC _ B1 #[.int .i64 11, .int .u64 cy, .int .i64 t, .int .i64 0, .int .i64 0, .int .i64 0, .int .i64 0, .int .i64 0] 64]) := q6
  clear q6 S6
  have q7 := S7.blkSet _ (get_l2 ct _ _).2 7 (.int .i64 0)
  rw [set_l21] at q7
  have S8 : Has w0 _ (ct ++ [blkC _ B #[.int .i64 11, .int .u64 cy, .int .i64 t, .int .i64 0, .int .i64 0, .int .i64 0, .int .i64 0, .int .i64 0] 64] ++ [blkC _ B1 #[.int .i64 11, .int .u64 cy, .int .i64 t, .int .i64 0, .int .i64 0, .int .i64 0, .int .i64 0, .int .i64 0] 64]) := q7
  clear q7 S7
  go_wp2_with fail
  obtain ⟨r0, r1, r2, r3, r4, r5, r6, r7, fr⟩ := row8 (S8.get (ct.length + 1) (get_l2 ct _ _).2)
  refine bodyPost_ret (v := .tuple #[.slice na (mput l 3 (0)).length nc, .agg #[.int .i64 11, .int .u64 cy, .int .i64 t, .int .i64 0, .int .i64 0, .int .i64 0, .int .i64 0, .int .i64 0]]) (by simp [results, Try.results31, go_sem, r0, r1, r2, r3, r4, r5, r6, r7]) rfl ⟨_, rfl, ?_⟩
  have S9 := S8.front.front
  rw [HCT.out, HCS.out, set_l2 _ _ _ _ HI.out] at S9
  exact S9.front.front

set_option maxRecDepth 100000 in
set_option maxHeartbeats 4000000 in
theorem rst12a (hw : mld l 3 = c.pt) :
    Calls Try.prog 31 #[.agg #[lv, .int .i64 n], cfgV c, mv, rdV ⟨12, cy, t, ek, ea, eb⟩, .int .i64 dr] w fun e w' => e = .returned (.tuple #[mv, rdV ⟨13, cy, t, 0, 0, 0⟩]) ∧ Has w0 w' cs := by
  obtain ⟨K, hK⟩ : ∃ K, K = mld l 3 := ⟨_, rfl⟩
  rw [← hK] at hw
  have HK := Lib.hid hK
  have hpt := (cfg_bd h).pt
  have hwp : IntKind.u64.wrap c.pt = c.pt := by rw [IntKind.wrap_u64]; omega
  have hwb : (K == c.pt) = true := by simpa using hw
  clear hK hw
  obtain ⟨la, lc, rfl⟩ := own_is (H.get q hq)
  obtain ⟨ma, mc, rfl, -, -⟩ := H.sl i hi
  have HQ := Lib.hid hq
  have HI := Lib.hid hi
  have hmu := h.mu
  clear hi hq
  unfold rdV cfgV cfgCells
  go_enter Try.func31, Try.ntmps31
  have G0 := (((H.blkNew #[.slice la c.things.length lc, .int .i64 n] 59).blkNew (cfgCells c) 61).blkNew #[.int .i64 12, .int .u64 cy, .int .i64 t, .int .i64 0, .int .i64 0, .int .i64 0, .int .i64 0, .int .i64 0] 64).blkNew #[.int .i64 0, .int .u64 0, .int .i64 0, .int .i64 0, .int .i64 0, .int .i64 0, .int .i64 0, .int .i64 0] 64
  have z1 : ∀ (w : World) o, (w.alloc o).heap.size = w.heap.size + 1 := fun w o => by simp
  simp only [z1] at G0
  clear z1
  go_wp2_with fail
  obtain ⟨w1, G1, eW⟩ := G0.name
  have eW2 := eW.out
  unfold cfgCells at eW2
  first | rw [← eW2] | rw [← eW.out]
  clear eW eW2
  obtain ⟨k0, k1, k2, k3, k4, k5, k6, k7, k8, k9, k10, k11, fk⟩ := row12 (G1.get (cs.length + 1) (get_app (get_app (get_l2 cs _ _).2 _) _))
  have HI4 : Hid ((cs ++ [blkC _ w.heap.size #[.slice la c.things.length lc, .int .i64 n] 59] ++ [blkC _ (w.heap.size + 1) (cfgCells c) 61])[i]? = some (slC _ .u64 (.slice ma l.length mc) l)) := Lib.hid (get_app (get_app HI.out _) _)
  go_region_held3 (fun w' => w'.cell? ⟨w.heap.size + 1, 0, none⟩ = some (.int .i64 c.c0) ∧ w'.cell? ⟨w.heap.size + 1, 1, none⟩ = some (.int .i64 c.c1) ∧ w'.cell? ⟨w.heap.size + 1, 2, none⟩ = some (.int .i64 c.c2) ∧ w'.cell? ⟨w.heap.size + 1, 3, none⟩ = some (.int .i64 c.c3) ∧ w'.cell? ⟨w.heap.size + 1, 4, none⟩ = some (.int .i64 c.c4) ∧ w'.cell? ⟨w.heap.size + 1, 5, none⟩ = some (.int .i64 c.mr) ∧ w'.cell? ⟨w.heap.size + 1, 6, none⟩ = some (.int .i64 c.mu) ∧ w'.cell? ⟨w.heap.size + 1, 7, none⟩ = some (.int .i64 c.dq) ∧ w'.cell? ⟨w.heap.size + 1, 8, none⟩ = some (.int .i64 c.ch) ∧ w'.cell? ⟨w.heap.size + 1, 9, none⟩ = some (.int .i64 c.bf) ∧ w'.cell? ⟨w.heap.size + 1, 10, none⟩ = some (.int .i64 c.rt) ∧ w'.cell? ⟨w.heap.size + 1, 11, none⟩ = some (.int .i64 c.sw)) (refine ⟨?_, ?_, ?_, ?_, ?_, ?_, ?_, ?_, ?_, ?_, ?_, ?_⟩ <;> (first | (with_reducible assumption) | (simp only [cell_drewN1, cell_drew1]; with_reducible assumption))) (first | (go_at_call 56; (first | refine (RLoad_h G2 i (get_app (get_app HI4.out _) _) 3).mono ?_ | refine (RLoad_h (G2.drewN _) i (get_app (get_app HI4.out _) _) 3).mono ?_ | refine (RLoad_h G1 i (get_app (get_app HI4.out _) _) 3).mono ?_ | refine (RLoad_h (G1.drewN _) i (get_app (get_app HI4.out _) _) 3).mono ?_); rw [← HK.out]; rintro e w3 ⟨rfl, rfl⟩) | (go_at_call 58; (first | refine (RParts16_h G1 c h).mono ?_ | refine (RParts16_h (G1.drewN _) c h).mono ?_); rintro e w4 ⟨rfl, G2⟩; obtain ⟨k0, k1, k2, k3, k4, k5, k6, k7, k8, k9, k10, k11, fk⟩ := row12 (G2.get (cs.length + 1) (get_app (get_app (get_l2 cs _ _).2 _) _))))
  have G3 := G2
  clear G1 G2 k0 k1 k2 k3 k4 k5 k6 k7 k8 k9 k10 k11 fk
  have G1 := G3
  clear G3
  obtain ⟨B, hB⟩ : ∃ B, B = w.heap.size + 1 + 1 := ⟨_, rfl⟩
  obtain ⟨B1, hB1⟩ : ∃ B1, B1 = w.heap.size + 1 + 1 + 1 := ⟨_, rfl⟩
  obtain ⟨cs', hcs⟩ : ∃ cs', cs' = cs ++ [blkC _ w.heap.size #[.slice la c.things.length lc, .int .i64 n] 59] ++ [blkC _ (w.heap.size + 1) (cfgCells c) 61] := ⟨_, rfl⟩
  rw [← hB1, ← hB, ← hcs] at G1
  rw [← hB1, ← hB]
  have HCS := Lib.hid hcs
  have HBB : Hid (B ≠ B1) := Lib.hid (by omega)
  clear G0 hB hB1 hcs
  obtain ⟨b0, b1, b2, b3, b4, b5, b6, b7, fb⟩ := row8 (G1.get cs'.length (get_l2 cs' _ _).1)
  obtain ⟨r0, r1, r2, r3, r4, r5, r6, r7, fr⟩ := row8 (G1.get (cs'.length + 1) (get_l2 cs' _ _).2)
  have p0 := G1.blkSet cs'.length (get_l2 cs' (blkC _ B #[.int .i64 12, .int .u64 cy, .int .i64 t, .int .i64 0, .int .i64 0, .int .i64 0, .int .i64 0, .int .i64 0] 64) (blkC _ B1 #[.int .i64 0, .int .u64 0, .int .i64 0, .int .i64 0, .int .i64 0, .int .i64 0, .int .i64 0, .int .i64 0] 64)).1 0 (.int .i64 13)
  rw [set_l20] at p0
  have P1 : Has w0 (w4.setCell ⟨B, 0, none⟩ (.int .i64 13)) (cs' ++ [blkC _ B #[.int .i64 13, .int .u64 cy, .int .i64 t, .int .i64 0, .int .i64 0, .int .i64 0, .int .i64 0, .int .i64 0] 64] ++ [blkC _ B1 #[.int .i64 0, .int .u64 0, .int .i64 0, .int .i64 0, .int .i64 0, .int .i64 0, .int .i64 0, .int .i64 0] 64]) := p0
  clear p0
  obtain ⟨W, G4, eW⟩ := P1.name
  go_wp2_with fail
  rw [← eW.out]
  clear eW P1 G1 b0 b1 b2 b3 b4 b5 b6 b7 fb r0 r1 r2 r3 r4 r5 r6 r7 fr
  have G1 := G4
  clear G4
  obtain ⟨b0, b1, b2, b3, b4, b5, b6, b7, fb⟩ := row8 (G1.get cs'.length (get_l2 cs' _ _).1)
  obtain ⟨r0, r1, r2, r3, r4, r5, r6, r7, fr⟩ := row8 (G1.get (cs'.length + 1) (get_l2 cs' _ _).2)
  have S0 := G1
  have q0 := S0.blkSet _ (get_l2 cs' _ _).2 0 (.int .i64 13)
  rw [set_l21] at q0
  have S1 : Has w0 _ (cs' ++ [blkC _ B #[.int .i64 13, .int .u64 cy, .int .i64 t, .int .i64 0, .int .i64 0, .int .i64 0, .int .i64 0, .int .i64 0] 64] ++ [blkC _ B1 #[.int .i64 13, .int .u64 0, .int .i64 0, .int .i64 0, .int .i64 0, .int .i64 0, .int .i64 0, .int .i64 0] 64]) := q0
  clear q0 S0
  have q1 := S1.blkSet _ (get_l2 cs' _ _).2 1 (.int .u64 cy)
  rw [set_l21] at q1
  have S2 : Has w0 _ (cs' ++ [blkC _ B #[.int .i64 13, .int .u64 cy, .int .i64 t, .int .i64 0, .int .i64 0, .int .i64 0, .int .i64 0, .int .i64 0] 64] ++ [blkC _ B1 #[.int .i64 13, .int .u64 cy, .int .i64 0, .int .i64 0, .int .i64 0, .int .i64 0, .int .i64 0, .int .i64 0] 64]) := q1
  clear q1 S1
  have q2 := S2.blkSet _ (get_l2 cs' _ _).2 2 (.int .i64 t)
  rw [set_l21] at q2
  have S3 : Has w0 _ (cs' ++ [blkC _ B #[.int .i64 13, .int .u64 cy, .int .i64 t, .int .i64 0, .int .i64 0, .int .i64 0, .int .i64 0, .int .i64 0] 64] ++ [blkC _ B1 #[.int .i64 13, .int .u64 cy, .int .i64 t, .int .i64 0, .int .i64 0, .int .i64 0, .int .i64 0, .int .i64 0] 64]) := q2
  clear q2 S2
  have q3 := S3.blkSet _ (get_l2 cs' _ _).2 3 (.int .i64 0)
  rw [set_l21] at q3
  have S4 : Has w0 _ (cs' ++ [blkC _ B #[.int .i64 13, .int .u64 cy, .int .i64 t, .int .i64 0, .int .i64 0, .int .i64 0, .int .i64 0, .int .i64 0] 64] ++ [blkC _ B1 #[.int .i64 13, .int .u64 cy, .int .i64 t, .int .i64 0, .int .i64 0, .int .i64 0, .int .i64 0, .int .i64 0] 64]) := q3
  clear q3 S3
  have q4 := S4.blkSet _ (get_l2 cs' _ _).2 4 (.int .i64 0)
  rw [set_l21] at q4
  have S5 : Has w0 _ (cs' ++ [blkC _ B #[.int .i64 13, .int .u64 cy, .int .i64 t, .int .i64 0, .int .i64 0, .int .i64 0, .int .i64 0, .int .i64 0] 64] ++ [blkC _ B1 #[.int .i64 13, .int .u64 cy, .int .i64 t, .int .i64 0, .int .i64 0, .int .i64 0, .int .i64 0, .int .i64 0] 64]) := q4
  clear q4 S4
  have q5 := S5.blkSet _ (get_l2 cs' _ _).2 5 (.int .i64 0)
  rw [set_l21] at q5
  have S6 : Has w0 _ (cs' ++ [blkC _ B #[.int .i64 13, .int .u64 cy, .int .i64 t, .int .i64 0, .int .i64 0, .int .i64 0, .int .i64 0, .int .i64 0] 64] ++ [blkC _ B1 #[.int .i64 13, .int .u64 cy, .int .i64 t, .int .i64 0, .int .i64 0, .int .i64 0, .int .i64 0, .int .i64 0] 64]) := q5
  clear q5 S5
  have q6 := S6.blkSet _ (get_l2 cs' _ _).2 6 (.int .i64 0)
  rw [set_l21] at q6
  have S7 : Has w0 _ (cs' ++ [blkC _ B #[.int .i64 13, .int .u64 cy, .int .i64 t, .int .i64 0, .int .i64 0, .int .i64 0, .int .i64 0, .int .i64 0] 64] ++ [blkC _ B1 #[.int .i64 13, .int .u64 cy, .int .i64 t, .int .i64 0, .int .i64 0, .int .i64 0, .int .i64 0, .int .i64 0] 64]) := q6
  clear q6 S6
  have q7 := S7.blkSet _ (get_l2 cs' _ _).2 7 (.int .i64 0)
  rw [set_l21] at q7
  have S8 : Has w0 _ (cs' ++ [blkC _ B #[.int .i64 13, .int .u64 cy, .int .i64 t, .int .i64 0, .int .i64 0, .int .i64 0, .int .i64 0, .int .i64 0] 64] ++ [blkC _ B1 #[.int .i64 13, .int .u64 cy, .int .i64 t, .int .i64 0, .int .i64 0, .int .i64 0, .int .i64 0, .int .i64 0] 64]) := q7
  clear q7 S7
  go_region
  all_goals (go_wp2_with fail)
  obtain ⟨r0, r1, r2, r3, r4, r5, r6, r7, fr⟩ := row8 (S8.get (cs'.length + 1) (get_l2 cs' _ _).2)
  refine bodyPost_ret (v := .tuple #[.slice ma l.length mc, .agg #[.int .i64 13, .int .u64 cy, .int .i64 t, .int .i64 0, .int .i64 0, .int .i64 0, .int .i64 0, .int .i64 0]]) (by simp [results, Try.results31, go_sem, r0, r1, r2, r3, r4, r5, r6, r7]) rfl ⟨rfl, ?_⟩
  have S9 := S8.drew.front.front
  rw [HCS.out] at S9
  exact S9.front.front

set_option maxRecDepth 100000 in
set_option maxHeartbeats 4000000 in
theorem rst12b (hw : ¬ mld l 3 = c.pt) :
    Calls Try.prog 31 #[.agg #[lv, .int .i64 n], cfgV c, mv, rdV ⟨12, cy, t, ek, ea, eb⟩, .int .i64 dr] w fun e w' => e = .returned (.tuple #[mv, rdV ⟨12, cy, t, 0, 0, 0⟩]) ∧ Has w0 w' cs := by
  obtain ⟨K, hK⟩ : ∃ K, K = mld l 3 := ⟨_, rfl⟩
  rw [← hK] at hw
  have HK := Lib.hid hK
  have hpt := (cfg_bd h).pt
  have hwp : IntKind.u64.wrap c.pt = c.pt := by rw [IntKind.wrap_u64]; omega
  have hwb : (K == c.pt) = false := by simpa using hw
  clear hK hw
  obtain ⟨la, lc, rfl⟩ := own_is (H.get q hq)
  obtain ⟨ma, mc, rfl, -, -⟩ := H.sl i hi
  have HQ := Lib.hid hq
  have HI := Lib.hid hi
  have hmu := h.mu
  clear hi hq
  unfold rdV cfgV cfgCells
  go_enter Try.func31, Try.ntmps31
  have G0 := (((H.blkNew #[.slice la c.things.length lc, .int .i64 n] 59).blkNew (cfgCells c) 61).blkNew #[.int .i64 12, .int .u64 cy, .int .i64 t, .int .i64 0, .int .i64 0, .int .i64 0, .int .i64 0, .int .i64 0] 64).blkNew #[.int .i64 0, .int .u64 0, .int .i64 0, .int .i64 0, .int .i64 0, .int .i64 0, .int .i64 0, .int .i64 0] 64
  have z1 : ∀ (w : World) o, (w.alloc o).heap.size = w.heap.size + 1 := fun w o => by simp
  simp only [z1] at G0
  clear z1
  go_wp2_with fail
  obtain ⟨w1, G1, eW⟩ := G0.name
  have eW2 := eW.out
  unfold cfgCells at eW2
  first | rw [← eW2] | rw [← eW.out]
  clear eW eW2
  obtain ⟨k0, k1, k2, k3, k4, k5, k6, k7, k8, k9, k10, k11, fk⟩ := row12 (G1.get (cs.length + 1) (get_app (get_app (get_l2 cs _ _).2 _) _))
  have HI4 : Hid ((cs ++ [blkC _ w.heap.size #[.slice la c.things.length lc, .int .i64 n] 59] ++ [blkC _ (w.heap.size + 1) (cfgCells c) 61])[i]? = some (slC _ .u64 (.slice ma l.length mc) l)) := Lib.hid (get_app (get_app HI.out _) _)
  go_region_held3 (fun w' => w'.cell? ⟨w.heap.size + 1, 0, none⟩ = some (.int .i64 c.c0) ∧ w'.cell? ⟨w.heap.size + 1, 1, none⟩ = some (.int .i64 c.c1) ∧ w'.cell? ⟨w.heap.size + 1, 2, none⟩ = some (.int .i64 c.c2) ∧ w'.cell? ⟨w.heap.size + 1, 3, none⟩ = some (.int .i64 c.c3) ∧ w'.cell? ⟨w.heap.size + 1, 4, none⟩ = some (.int .i64 c.c4) ∧ w'.cell? ⟨w.heap.size + 1, 5, none⟩ = some (.int .i64 c.mr) ∧ w'.cell? ⟨w.heap.size + 1, 6, none⟩ = some (.int .i64 c.mu) ∧ w'.cell? ⟨w.heap.size + 1, 7, none⟩ = some (.int .i64 c.dq) ∧ w'.cell? ⟨w.heap.size + 1, 8, none⟩ = some (.int .i64 c.ch) ∧ w'.cell? ⟨w.heap.size + 1, 9, none⟩ = some (.int .i64 c.bf) ∧ w'.cell? ⟨w.heap.size + 1, 10, none⟩ = some (.int .i64 c.rt) ∧ w'.cell? ⟨w.heap.size + 1, 11, none⟩ = some (.int .i64 c.sw)) (refine ⟨?_, ?_, ?_, ?_, ?_, ?_, ?_, ?_, ?_, ?_, ?_, ?_⟩ <;> (first | (with_reducible assumption) | (simp only [cell_drewN1, cell_drew1]; with_reducible assumption))) (first | (go_at_call 56; (first | refine (RLoad_h G2 i (get_app (get_app HI4.out _) _) 3).mono ?_ | refine (RLoad_h (G2.drewN _) i (get_app (get_app HI4.out _) _) 3).mono ?_ | refine (RLoad_h G1 i (get_app (get_app HI4.out _) _) 3).mono ?_ | refine (RLoad_h (G1.drewN _) i (get_app (get_app HI4.out _) _) 3).mono ?_); rw [← HK.out]; rintro e w3 ⟨rfl, rfl⟩) | (go_at_call 58; (first | refine (RParts16_h G1 c h).mono ?_ | refine (RParts16_h (G1.drewN _) c h).mono ?_); rintro e w4 ⟨rfl, G2⟩; obtain ⟨k0, k1, k2, k3, k4, k5, k6, k7, k8, k9, k10, k11, fk⟩ := row12 (G2.get (cs.length + 1) (get_app (get_app (get_l2 cs _ _).2 _) _))))
  have G3 := G2
  clear G1 G2 k0 k1 k2 k3 k4 k5 k6 k7 k8 k9 k10 k11 fk
  have G1 := G3
  clear G3
  obtain ⟨B, hB⟩ : ∃ B, B = w.heap.size + 1 + 1 := ⟨_, rfl⟩
  obtain ⟨B1, hB1⟩ : ∃ B1, B1 = w.heap.size + 1 + 1 + 1 := ⟨_, rfl⟩
  obtain ⟨cs', hcs⟩ : ∃ cs', cs' = cs ++ [blkC _ w.heap.size #[.slice la c.things.length lc, .int .i64 n] 59] ++ [blkC _ (w.heap.size + 1) (cfgCells c) 61] := ⟨_, rfl⟩
  rw [← hB1, ← hB, ← hcs] at G1
  rw [← hB1, ← hB]
  have HCS := Lib.hid hcs
  have HBB : Hid (B ≠ B1) := Lib.hid (by omega)
  clear G0 hB hB1 hcs
  obtain ⟨b0, b1, b2, b3, b4, b5, b6, b7, fb⟩ := row8 (G1.get cs'.length (get_l2 cs' _ _).1)
  obtain ⟨r0, r1, r2, r3, r4, r5, r6, r7, fr⟩ := row8 (G1.get (cs'.length + 1) (get_l2 cs' _ _).2)
  go_wp2_with fail
  clear b0 b1 b2 b3 b4 b5 b6 b7 fb r0 r1 r2 r3 r4 r5 r6 r7 fr
  obtain ⟨b0, b1, b2, b3, b4, b5, b6, b7, fb⟩ := row8 (G1.get cs'.length (get_l2 cs' _ _).1)
  obtain ⟨r0, r1, r2, r3, r4, r5, r6, r7, fr⟩ := row8 (G1.get (cs'.length + 1) (get_l2 cs' _ _).2)
  have S0 := G1
  have q0 := S0.blkSet _ (get_l2 cs' _ _).2 0 (.int .i64 12)
  rw [set_l21] at q0
  have S1 : Has w0 _ (cs' ++ [blkC _ B #[.int .i64 12, .int .u64 cy, .int .i64 t, .int .i64 0, .int .i64 0, .int .i64 0, .int .i64 0, .int .i64 0] 64] ++ [blkC _ B1 #[.int .i64 12, .int .u64 0, .int .i64 0, .int .i64 0, .int .i64 0, .int .i64 0, .int .i64 0, .int .i64 0] 64]) := q0
  clear q0 S0
  have q1 := S1.blkSet _ (get_l2 cs' _ _).2 1 (.int .u64 cy)
  rw [set_l21] at q1
  have S2 : Has w0 _ (cs' ++ [blkC _ B #[.int .i64 12, .int .u64 cy, .int .i64 t, .int .i64 0, .int .i64 0, .int .i64 0, .int .i64 0, .int .i64 0] 64] ++ [blkC _ B1 #[.int .i64 12, .int .u64 cy, .int .i64 0, .int .i64 0, .int .i64 0, .int .i64 0, .int .i64 0, .int .i64 0] 64]) := q1
  clear q1 S1
  have q2 := S2.blkSet _ (get_l2 cs' _ _).2 2 (.int .i64 t)
  rw [set_l21] at q2
  have S3 : Has w0 _ (cs' ++ [blkC _ B #[.int .i64 12, .int .u64 cy, .int .i64 t, .int .i64 0, .int .i64 0, .int .i64 0, .int .i64 0, .int .i64 0] 64] ++ [blkC _ B1 #[.int .i64 12, .int .u64 cy, .int .i64 t, .int .i64 0, .int .i64 0, .int .i64 0, .int .i64 0, .int .i64 0] 64]) := q2
  clear q2 S2
  have q3 := S3.blkSet _ (get_l2 cs' _ _).2 3 (.int .i64 0)
  rw [set_l21] at q3
  have S4 : Has w0 _ (cs' ++ [blkC _ B #[.int .i64 12, .int .u64 cy, .int .i64 t, .int .i64 0, .int .i64 0, .int .i64 0, .int .i64 0, .int .i64 0] 64] ++ [blkC _ B1 #[.int .i64 12, .int .u64 cy, .int .i64 t, .int .i64 0, .int .i64 0, .int .i64 0, .int .i64 0, .int .i64 0] 64]) := q3
  clear q3 S3
  have q4 := S4.blkSet _ (get_l2 cs' _ _).2 4 (.int .i64 0)
  rw [set_l21] at q4
  have S5 : Has w0 _ (cs' ++ [blkC _ B #[.int .i64 12, .int .u64 cy, .int .i64 t, .int .i64 0, .int .i64 0, .int .i64 0, .int .i64 0, .int .i64 0] 64] ++ [blkC _ B1 #[.int .i64 12, .int .u64 cy, .int .i64 t, .int .i64 0, .int .i64 0, .int .i64 0, .int .i64 0, .int .i64 0] 64]) := q4
  clear q4 S4
  have q5 := S5.blkSet _ (get_l2 cs' _ _).2 5 (.int .i64 0)
  rw [set_l21] at q5
  have S6 : Has w0 _ (cs' ++ [blkC _ B #[.int .i64 12, .int .u64 cy, .int .i64 t, .int .i64 0, .int .i64 0, .int .i64 0, .int .i64 0, .int .i64 0] 64] ++ [blkC _ B1 #[.int .i64 12, .int .u64 cy, .int .i64 t, .int .i64 0, .int .i64 0, .int .i64 0, .int .i64 0, .int .i64 0] 64]) := q5
  clear q5 S5
  have q6 := S6.blkSet _ (get_l2 cs' _ _).2 6 (.int .i64 0)
  rw [set_l21] at q6
  have S7 : Has w0 _ (cs' ++ [blkC _ B #[.int .i64 12, .int .u64 cy, .int .i64 t, .int .i64 0, .int .i64 0, .int .i64 0, .int .i64 0, .int .i64 0] 64] ++ [blkC _ B1 #[.int .i64 12, .int .u64 cy, .int .i64 t, .int .i64 0, .int .i64 0, .int .i64 0, .int .i64 0, .int .i64 0] 64]) := q6
  clear q6 S6
  have q7 := S7.blkSet _ (get_l2 cs' _ _).2 7 (.int .i64 0)
  rw [set_l21] at q7
  have S8 : Has w0 _ (cs' ++ [blkC _ B #[.int .i64 12, .int .u64 cy, .int .i64 t, .int .i64 0, .int .i64 0, .int .i64 0, .int .i64 0, .int .i64 0] 64] ++ [blkC _ B1 #[.int .i64 12, .int .u64 cy, .int .i64 t, .int .i64 0, .int .i64 0, .int .i64 0, .int .i64 0, .int .i64 0] 64]) := q7
  clear q7 S7
  go_region
  all_goals (go_wp2_with fail)
  obtain ⟨r0, r1, r2, r3, r4, r5, r6, r7, fr⟩ := row8 (S8.get (cs'.length + 1) (get_l2 cs' _ _).2)
  refine bodyPost_ret (v := .tuple #[.slice ma l.length mc, .agg #[.int .i64 12, .int .u64 cy, .int .i64 t, .int .i64 0, .int .i64 0, .int .i64 0, .int .i64 0, .int .i64 0]]) (by simp [results, Try.results31, go_sem, r0, r1, r2, r3, r4, r5, r6, r7]) rfl ⟨rfl, ?_⟩
  have S9 := S8.drew.front.front
  rw [HCS.out] at S9
  exact S9.front.front

omit H hi hq h hl in
theorem keep21 {f : Nat} {args : Array Value} (hi : cs[i]? = some (slC _ .u64 mv l)) {V : Value} (g : Calls Try.prog f args w fun e w' => e = .returned (.tuple #[mv, V]) ∧ Has w0 w' cs) : Calls Try.prog f args w fun e w' => ∃ mv', e = .returned (.tuple #[mv', V]) ∧ Has w0 w' (cs.set i (slC _ .u64 mv' l)) :=
  g.mono fun _ _ ⟨a, b⟩ => ⟨mv, a, by rw [lset_is21 hi]; exact b⟩

/-- One step of the reference's machine. -/
theorem rdStep_h (x : Dt) (hx : DtOk c x) (hcy : x.cy < 999998) (dr0 : 0 ≤ dr) (hw1 : 0 ≤ mld l 1) :
    Calls Try.prog 31 #[.agg #[lv, .int .i64 n], cfgV c, mv, rdV x, .int .i64 dr] w fun e w' => ∃ mv', e = .returned (.tuple #[mv', rdV (dtStep c l x dr).2]) ∧ Has w0 w' (cs.set i (slC _ .u64 mv' (dtStep c l x dr).1)) := by
  obtain ⟨d, cy, t, ek, ea, eb⟩ := x
  obtain ⟨o1, o2, o3, o4, o5, o6⟩ := hx
  dsimp only at o1 o2 o3 o4 o5 o6 hcy
  have et : dr.tmod 2 = dr % 2 := Int.tmod_eq_emod_of_nonneg dr0
  have hd : d = 0 ∨ d = 1 ∨ d = 2 ∨ d = 3 ∨ d = 4 ∨ d = 5 ∨ d = 6 ∨ d = 7 ∨ d = 8 ∨ d = 9 ∨ d = 10 ∨ d = 11 ∨ d = 12 ∨ d = 13 := by omega
  rcases hd with rfl | rfl | rfl | rfl | rfl | rfl | rfl | rfl | rfl | rfl | rfl | rfl | rfl | rfl
  · by_cases hr : dr % 2 = 0
    · have e : dtStep c l ⟨0, cy, t, ek, ea, eb⟩ dr = (l, ⟨0, cy, t, 0, 0, 0⟩) := by show (bif dr % 2 == 0 then (l, (⟨0, cy, t, 0, 0, 0⟩ : Dt)) else dtTell l 0 (cy + 1) 1) = _; rw [hr]; rfl
      rw [e]
      exact keep21 i hi (rst0a H i q n cy t ek ea eb dr hi hq h hl (by rw [et, hr]; rfl))
    · have e : dtStep c l ⟨0, cy, t, ek, ea, eb⟩ dr = dtTell l 0 (cy + 1) 1 := by show (bif dr % 2 == 0 then (l, (⟨0, cy, t, 0, 0, 0⟩ : Dt)) else dtTell l 0 (cy + 1) 1) = _; rw [show (dr % 2 == 0) = false by simpa using hr]; rfl
      rw [e]
      exact rst0b H i q n cy t ek ea eb dr hi hq h hl (by rw [et]; simpa using hr) o2 (by omega)
  · exact keep21 i hi (rst1 H i q n cy t ek ea eb dr hi hq h hl o4 (o6 (by omega)) (o3 (by omega)) (by omega))
  · exact rst2 H i q n cy t ek ea eb dr hi hq h hl (o3 (by omega)) (by omega)
  · exact keep21 i hi (rst3 H i q n cy t ek ea eb dr hi hq h hl o4 (o6 (by omega)) (o3 (by omega)) (by omega))
  · exact rst4 H i q n cy t ek ea eb dr hi hq h hl (o3 (by omega)) (by omega)
  · exact keep21 i hi (rst5 H i q n cy t ek ea eb dr hi hq h hl o4 (o6 (by omega)) (o3 (by omega)) (by omega))
  · exact rst6 H i q n cy t ek ea eb dr hi hq h hl (o3 (by omega)) (by omega)
  · have e : dtStep c l ⟨7, cy, t, ek, ea, eb⟩ dr = (l, ⟨bif mld l 1 != 0 then 7 else 8, cy, t, 0, 0, 0⟩) := rfl
    rw [e]
    by_cases g : mld l 1 = 0
    · rw [g]; exact keep21 i hi (rst7b H i q n cy t ek ea eb dr hi hq h hl (by omega))
    · rw [show (mld l 1 != 0) = true by simpa using g]; exact keep21 i hi (rst7a H i q n cy t ek ea eb dr hi hq h hl (by omega))
  · have e : dtStep c l ⟨8, cy, t, ek, ea, eb⟩ dr = (l, ⟨bif mld l 1 != 0 then 7 else 9, cy, t, 0, 0, 0⟩) := rfl
    rw [e]
    by_cases g : mld l 1 = 0
    · rw [g]; exact keep21 i hi (rst8b H i q n cy t ek ea eb dr hi hq h hl (by omega))
    · rw [show (mld l 1 != 0) = true by simpa using g]; exact keep21 i hi (rst8a H i q n cy t ek ea eb dr hi hq h hl (by omega))
  · exact rst9 H i q n cy t ek ea eb dr hi hq h hl (o3 (by omega)) (by omega)
  · exact rst10 H i q n cy t ek ea eb dr hi hq h hl (o3 (by omega)) (by omega)
  · exact rst11 H i q n cy t ek ea eb dr hi hq h hl (o3 (by omega)) (by omega)
  · have e : dtStep c l ⟨12, cy, t, ek, ea, eb⟩ dr = (l, ⟨bif mld l 3 != c.pt then 12 else 13, cy, t, 0, 0, 0⟩) := rfl
    rw [e]
    by_cases g : mld l 3 = c.pt
    · rw [show (mld l 3 != c.pt) = false by simpa using g]; exact keep21 i hi (rst12a H i q n cy t ek ea eb dr hi hq h hl g)
    · rw [show (mld l 3 != c.pt) = true by simpa using g]; exact keep21 i hi (rst12b H i q n cy t ek ea eb dr hi hq h hl g)
  · exact rst13 H i q n cy t ek ea eb dr hi hq h hl (o3 (by omega)) (by omega)

end
end Go.Proofs.Ytgodnmcfbbchoaa
