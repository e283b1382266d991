/- The reference's machine of layer 21: the turn's mutator. -/
import Derived.Test.YtgodnmcfbbchoaaRef21
set_option linter.unusedVariables false
set_option linter.unusedSimpArgs false
namespace Go.Proofs.Ytgodnmcfbbchoaa
open Go.ChangeShapes Go.WideShapes Go.ChangeAt Go.RowKit

theorem set_l20 {α : Type} (l : List α) (a b y : α) : (l ++ [a] ++ [b]).set l.length y = l ++ [y] ++ [b] := by
  rw [List.set_append_left _ _ (by simp), set_last]

set_option maxRecDepth 100000 in
set_option maxHeartbeats 4000000 in
theorem rsaid {w0 w : World} {cs : List (Chunk w0.heap.size)} (H : Has w0 w cs) (i q : Nat) {mv lv : Value} {l : List Int} {c : Cfg} (n : Int) (d : Nat) (cy t least : Int) (hi : cs[i]? = some (slC _ .u64 mv l)) (hq : cs[q]? = some (ownT _ lv c.things)) (h : CfgOk c) (hd : d ≤ 13) (t0 : 0 ≤ t) (t1 : t < c.mu) :
    Calls Try.prog 55 #[.agg #[lv, .int .i64 n], cfgV c, mv, rdV ⟨d, cy, t, 0, 0, 0⟩, .int .u64 least] w fun e w' => e = .returned (rdV (dtSaid c l d cy t least)) ∧ Has w0 w' cs := by
  obtain ⟨la, lc, rfl⟩ := own_is (H.get q hq)
  obtain ⟨ma, mc, rfl, -, -⟩ := H.sl i hi
  have HQ := Lib.hid hq
  have HI := Lib.hid hi
  have hmu := h.mu
  have hat : c.atOf ⟨6, t, 0⟩ = c.ackAt t := rfl
  have HAT := Lib.hid hat
  obtain ⟨A, hA⟩ : ∃ A, A = dtSaid c l d cy t least := ⟨_, rfl⟩
  have SC := Lib.hid (said_cases c l d cy t least)
  rw [← hA] at SC
  rw [← hA]
  clear hi hq hat hA
  unfold rdV cfgV cfgCells
  go_enter Try.func55, Try.ntmps55
  have G0' := (((H.blkNew #[.slice la c.things.length lc, .int .i64 n] 59).blkNew (cfgCells c) 61).blkNew #[.int .i64 d, .int .u64 cy, .int .i64 t, .int .i64 0, .int .i64 0, .int .i64 0, .int .i64 0, .int .i64 0] 64).blkNew #[.int .i64 0, .int .u64 0, .int .i64 0, .int .i64 0, .int .i64 0, .int .i64 0, .int .i64 0, .int .i64 0] 64
  have z1 : ∀ (w : World) o, (w.alloc o).heap.size = w.heap.size + 1 := fun w o => by simp
  simp only [z1] at G0'
  clear z1
  go_wp2_with fail
  refine (RAt11_h G0' q n (get_app (get_app (get_app (get_app HQ.out _) _) _) _) h ⟨6, t, 0⟩ ⟨by dsimp only; omega, (fun r => by exfalso; have : (6 : Int) ≤ 5 := r; omega), fun _ => rfl⟩).mono ?_
  rw [HAT.out]
  rintro e w1 ⟨rfl, G1'⟩
  obtain ⟨B, hB⟩ : ∃ B, B = w.heap.size + 1 + 1 := ⟨_, rfl⟩
  obtain ⟨B1, hB1⟩ : ∃ B1, B1 = w.heap.size + 1 + 1 + 1 := ⟨_, rfl⟩
  obtain ⟨cs', hcs⟩ : ∃ cs', cs' = cs ++ [blkC _ w.heap.size #[.slice la c.things.length lc, .int .i64 n] 59] ++ [blkC _ (w.heap.size + 1) (cfgCells c) 61] := ⟨_, rfl⟩
  rw [← hB1, ← hB, ← hcs] at G1'
  rw [← hB1, ← hB]
  have hBB : B ≠ B1 := by omega
  have HI2 : Hid (cs'[i]? = some (slC _ .u64 (.slice ma l.length mc) l)) := Lib.hid (by rw [hcs]; exact get_app (get_app HI.out _) _)
  have hcb : ∀ w', Has w0 w' cs' → w'.heap[w.heap.size + 1]? = some (.cells (cfgCells c) 61 (0, 0)) := fun w' g => g.get (cs.length + 1) (by rw [hcs]; exact (get_l2 cs _ _).2)
  have HCB := Lib.hid hcb
  have HCS := Lib.hid hcs
  have G1 := G1'
  clear G0' G1' hB hB1 hcs hcb
  obtain ⟨K, hK⟩ : ∃ K, K = mld l (c.ackAt t) := ⟨_, rfl⟩
  rw [← hK] at SC
  have HK := Lib.hid hK
  clear hK
  obtain ⟨b0, b1, b2, b3, b4, b5, b6, b7, fb⟩ := row8 (G1.get cs'.length (get_l2 cs' _ _).1)
  obtain ⟨r0, r1, r2, r3, r4, r5, r6, r7, fr⟩ := row8 (G1.get (cs'.length + 1) (get_l2 cs' _ _).2)
  have cb := row12 (HCB.out w1 G1.front.front)
  obtain ⟨k0, k1, k2, k3, k4, k5, k6, k7, k8, k9, k10, k11, fk⟩ := cb
  go_wp2_with fail
  refine (RLoad_h G1 i (get_app (get_app HI2.out _) _) (c.ackAt t)).mono ?_
  rw [← HK.out]
  rintro e w2 ⟨rfl, rfl⟩
  rcases SC.out with ⟨hc, ha⟩ | ⟨hc, hc2, ha⟩ | ⟨hc, hc2, ha⟩
  · have HA := Lib.hid ha
    have S0 := G1
    clear ha SC
    go_wp2_with fail
    have q0 := S0.blkSet _ (get_l2 cs' _ _).2 0 (.int .i64 d)
    rw [set_l21] at q0
    have S1 : Has w0 _ (cs' ++ [blkC _ B #[.int .i64 d, .int .u64 cy, .int .i64 t, .int .i64 0, .int .i64 0, .int .i64 0, .int .i64 0, .int .i64 0] 64] ++ [blkC _ B1 #[.int .i64 d, .int .u64 0, .int .i64 0, .int .i64 0, .int .i64 0, .int .i64 0, .int .i64 0, .int .i64 0] 64]) := q0
    clear q0 S0
    have q1 := S1.blkSet _ (get_l2 cs' _ _).2 1 (.int .u64 cy)
    rw [set_l21] at q1
    have S2 : Has w0 _ (cs' ++ [blkC _ B #[.int .i64 d, .int .u64 cy, .int .i64 t, .int .i64 0, .int .i64 0, .int .i64 0, .int .i64 0, .int .i64 0] 64] ++ [blkC _ B1 #[.int .i64 d, .int .u64 cy, .int .i64 0, .int .i64 0, .int .i64 0, .int .i64 0, .int .i64 0, .int .i64 0] 64]) := q1
    clear q1 S1
    have q2 := S2.blkSet _ (get_l2 cs' _ _).2 2 (.int .i64 t)
    rw [set_l21] at q2
    have S3 : Has w0 _ (cs' ++ [blkC _ B #[.int .i64 d, .int .u64 cy, .int .i64 t, .int .i64 0, .int .i64 0, .int .i64 0, .int .i64 0, .int .i64 0] 64] ++ [blkC _ B1 #[.int .i64 d, .int .u64 cy, .int .i64 t, .int .i64 0, .int .i64 0, .int .i64 0, .int .i64 0, .int .i64 0] 64]) := q2
    clear q2 S2
    have q3 := S3.blkSet _ (get_l2 cs' _ _).2 3 (.int .i64 0)
    rw [set_l21] at q3
    have S4 : Has w0 _ (cs' ++ [blkC _ B #[.int .i64 d, .int .u64 cy, .int .i64 t, .int .i64 0, .int .i64 0, .int .i64 0, .int .i64 0, .int .i64 0] 64] ++ [blkC _ B1 #[.int .i64 d, .int .u64 cy, .int .i64 t, .int .i64 0, .int .i64 0, .int .i64 0, .int .i64 0, .int .i64 0] 64]) := q3
    clear q3 S3
    have q4 := S4.blkSet _ (get_l2 cs' _ _).2 4 (.int .i64 0)
    rw [set_l21] at q4
    have S5 : Has w0 _ (cs' ++ [blkC _ B #[.int .i64 d, .int .u64 cy, .int .i64 t, .int .i64 0, .int .i64 0, .int .i64 0, .int .i64 0, .int .i64 0] 64] ++ [blkC _ B1 #[.int .i64 d, .int .u64 cy, .int .i64 t, .int .i64 0, .int .i64 0, .int .i64 0, .int .i64 0, .int .i64 0] 64]) := q4
    clear q4 S4
    have q5 := S5.blkSet _ (get_l2 cs' _ _).2 5 (.int .i64 0)
    rw [set_l21] at q5
    have S6 : Has w0 _ (cs' ++ [blkC _ B #[.int .i64 d, .int .u64 cy, .int .i64 t, .int .i64 0, .int .i64 0, .int .i64 0, .int .i64 0, .int .i64 0] 64] ++ [blkC _ B1 #[.int .i64 d, .int .u64 cy, .int .i64 t, .int .i64 0, .int .i64 0, .int .i64 0, .int .i64 0, .int .i64 0] 64]) := q5
    clear q5 S5
    have q6 := S6.blkSet _ (get_l2 cs' _ _).2 6 (.int .i64 0)
    rw [set_l21] at q6
    have S7 : Has w0 _ (cs' ++ [blkC _ B #[.int .i64 d, .int .u64 cy, .int .i64 t, .int .i64 0, .int .i64 0, .int .i64 0, .int .i64 0, .int .i64 0] 64] ++ [blkC _ B1 #[.int .i64 d, .int .u64 cy, .int .i64 t, .int .i64 0, .int .i64 0, .int .i64 0, .int .i64 0, .int .i64 0] 64]) := q6
    clear q6 S6
    have q7 := S7.blkSet _ (get_l2 cs' _ _).2 7 (.int .i64 0)
    rw [set_l21] at q7
    have S8 : Has w0 _ (cs' ++ [blkC _ B #[.int .i64 d, .int .u64 cy, .int .i64 t, .int .i64 0, .int .i64 0, .int .i64 0, .int .i64 0, .int .i64 0] 64] ++ [blkC _ B1 #[.int .i64 d, .int .u64 cy, .int .i64 t, .int .i64 0, .int .i64 0, .int .i64 0, .int .i64 0, .int .i64 0] 64]) := q7
    clear q7 S7
    go_wp2_with fail
    obtain ⟨r0, r1, r2, r3, r4, r5, r6, r7, fr⟩ := row8 (S8.get (cs'.length + 1) (get_l2 cs' _ _).2)
    refine bodyPost_ret (v := .agg #[.int .i64 d, .int .u64 cy, .int .i64 t, .int .i64 0, .int .i64 0, .int .i64 0, .int .i64 0, .int .i64 0]) (by simp [results, Try.results55, go_sem, r0, r1, r2, r3, r4, r5, r6, r7]) rfl ⟨by rw [HA.out] <;> rfl, ?_⟩
    have S9 := S8.front.front
    rw [HCS.out] at S9
    exact S9.front.front
  · have HA := Lib.hid ha
    have hcn : ¬ K < least := by omega
    have hne : (t + 1 == c.mu) = false := by simp; omega
    clear ha SC
    have P0 := G1
    have p0 := P0.blkSet _ (get_l2 cs' _ _).1 2 (.int .i64 (t + 1))
    rw [set_l20] at p0
    have P1 : Has w0 _ (cs' ++ [blkC _ B #[.int .i64 d, .int .u64 cy, .int .i64 (t + 1), .int .i64 0, .int .i64 0, .int .i64 0, .int .i64 0, .int .i64 0] 64] ++ [blkC _ B1 #[.int .i64 0, .int .u64 0, .int .i64 0, .int .i64 0, .int .i64 0, .int .i64 0, .int .i64 0, .int .i64 0] 64]) := p0
    clear p0 P0
    obtain ⟨W, S0, eW⟩ := P1.name
    go_wp2_with fail
    rw [← eW.out]
    clear eW G1
    clear b0 b1 b2 b3 b4 b5 b6 b7 fb r0 r1 r2 r3 r4 r5 r6 r7 fr
    obtain ⟨b0, b1, b2, b3, b4, b5, b6, b7, fb⟩ := row8 (S0.get cs'.length (get_l2 cs' _ _).1)
    obtain ⟨r0, r1, r2, r3, r4, r5, r6, r7, fr⟩ := row8 (S0.get (cs'.length + 1) (get_l2 cs' _ _).2)
    have q0 := S0.blkSet _ (get_l2 cs' _ _).2 0 (.int .i64 d)
    rw [set_l21] at q0
    have S1 : Has w0 _ (cs' ++ [blkC _ B #[.int .i64 d, .int .u64 cy, .int .i64 (t + 1), .int .i64 0, .int .i64 0, .int .i64 0, .int .i64 0, .int .i64 0] 64] ++ [blkC _ B1 #[.int .i64 d, .int .u64 0, .int .i64 0, .int .i64 0, .int .i64 0, .int .i64 0, .int .i64 0, .int .i64 0] 64]) := q0
    clear q0 S0
    have q1 := S1.blkSet _ (get_l2 cs' _ _).2 1 (.int .u64 cy)
    rw [set_l21] at q1
    have S2 : Has w0 _ (cs' ++ [blkC _ B #[.int .i64 d, .int .u64 cy, .int .i64 (t + 1), .int .i64 0, .int .i64 0, .int .i64 0, .int .i64 0, .int .i64 0] 64] ++ [blkC _ B1 #[.int .i64 d, .int .u64 cy, .int .i64 0, .int .i64 0, .int .i64 0, .int .i64 0, .int .i64 0, .int .i64 0] 64]) := q1
    clear q1 S1
    have q2 := S2.blkSet _ (get_l2 cs' _ _).2 2 (.int .i64 (t + 1))
    rw [set_l21] at q2
    have S3 : Has w0 _ (cs' ++ [blkC _ B #[.int .i64 d, .int .u64 cy, .int .i64 (t + 1), .int .i64 0, .int .i64 0, .int .i64 0, .int .i64 0, .int .i64 0] 64] ++ [blkC _ B1 #[.int .i64 d, .int .u64 cy, .int .i64 (t + 1), .int .i64 0, .int .i64 0, .int .i64 0, .int .i64 0, .int .i64 0] 64]) := q2
    clear q2 S2
    have q3 := S3.blkSet _ (get_l2 cs' _ _).2 3 (.int .i64 0)
    rw [set_l21] at q3
    have S4 : Has w0 _ (cs' ++ [blkC _ B #[.int .i64 d, .int .u64 cy, .int .i64 (t + 1), .int .i64 0, .int .i64 0, .int .i64 0, .int .i64 0, .int .i64 0] 64] ++ [blkC _ B1 #[.int .i64 d, .int .u64 cy, .int .i64 (t + 1), .int .i64 0, .int .i64 0, .int .i64 0, .int .i64 0, .int .i64 0] 64]) := q3
    clear q3 S3
    have q4 := S4.blkSet _ (get_l2 cs' _ _).2 4 (.int .i64 0)
    rw [set_l21] at q4
    have S5 : Has w0 _ (cs' ++ [blkC _ B #[.int .i64 d, .int .u64 cy, .int .i64 (t + 1), .int .i64 0, .int .i64 0, .int .i64 0, .int .i64 0, .int .i64 0] 64] ++ [blkC _ B1 #[.int .i64 d, .int .u64 cy, .int .i64 (t + 1), .int .i64 0, .int .i64 0, .int .i64 0, .int .i64 0, .int .i64 0] 64]) := q4
    clear q4 S4
    have q5 := S5.blkSet _ (get_l2 cs' _ _).2 5 (.int .i64 0)
    rw [set_l21] at q5
    have S6 : Has w0 _ (cs' ++ [blkC _ B #[.int .i64 d, .int .u64 cy, .int .i64 (t + 1), .int .i64 0, .int .i64 0, .int .i64 0, .int .i64 0, .int .i64 0] 64] ++ [blkC _ B1 #[.int .i64 d, .int .u64 cy, .int .i64 (t + 1), .int .i64 0, .int .i64 0, .int .i64 0, .int .i64 0, .int .i64 0] 64]) := q5
    clear q5 S5
    have q6 := S6.blkSet _ (get_l2 cs' _ _).2 6 (.int .i64 0)
    rw [set_l21] at q6
    have S7 : Has w0 _ (cs' ++ [blkC _ B #[.int .i64 d, .int .u64 cy, .int .i64 (t + 1), .int .i64 0, .int .i64 0, .int .i64 0, .int .i64 0, .int .i64 0] 64] ++ [blkC _ B1 #[.int .i64 d, .int .u64 cy, .int .i64 (t + 1), .int .i64 0, .int .i64 0, .int .i64 0, .int .i64 0, .int .i64 0] 64]) := q6
    clear q6 S6
    have q7 := S7.blkSet _ (get_l2 cs' _ _).2 7 (.int .i64 0)
    rw [set_l21] at q7
    have S8 : Has w0 _ (cs' ++ [blkC _ B #[.int .i64 d, .int .u64 cy, .int .i64 (t + 1), .int .i64 0, .int .i64 0, .int .i64 0, .int .i64 0, .int .i64 0] 64] ++ [blkC _ B1 #[.int .i64 d, .int .u64 cy, .int .i64 (t + 1), .int .i64 0, .int .i64 0, .int .i64 0, .int .i64 0, .int .i64 0] 64]) := q7
    clear q7 S7
    go_wp2_with fail
    obtain ⟨r0, r1, r2, r3, r4, r5, r6, r7, fr⟩ := row8 (S8.get (cs'.length + 1) (get_l2 cs' _ _).2)
    refine bodyPost_ret (v := .agg #[.int .i64 d, .int .u64 cy, .int .i64 (t + 1), .int .i64 0, .int .i64 0, .int .i64 0, .int .i64 0, .int .i64 0]) (by simp [results, Try.results55, go_sem, r0, r1, r2, r3, r4, r5, r6, r7]) rfl ⟨by rw [HA.out] <;> rfl, ?_⟩
    have S9 := S8.front.front
    rw [HCS.out] at S9
    exact S9.front.front
  · have hmt : t + 1 = c.mu := by omega
    rw [hmt] at ha
    have HA := Lib.hid ha
    have hcn : ¬ K < least := by omega
    have heq : (t + 1 == c.mu) = true := by simp; omega
    clear ha SC
    have P0 := G1
    have p0 := P0.blkSet _ (get_l2 cs' _ _).1 2 (.int .i64 c.mu)
    rw [set_l20] at p0
    have P1 : Has w0 _ (cs' ++ [blkC _ B #[.int .i64 d, .int .u64 cy, .int .i64 c.mu, .int .i64 0, .int .i64 0, .int .i64 0, .int .i64 0, .int .i64 0] 64] ++ [blkC _ B1 #[.int .i64 0, .int .u64 0, .int .i64 0, .int .i64 0, .int .i64 0, .int .i64 0, .int .i64 0, .int .i64 0] 64]) := p0
    clear p0 P0
    have p1 := P1.blkSet _ (get_l2 cs' _ _).1 0 (.int .i64 ((d : Int) + 1))
    rw [set_l20] at p1
    have P2 : Has w0 _ (cs' ++ [blkC _ B #[.int .i64 ((d : Int) + 1), .int .u64 cy, .int .i64 c.mu, .int .i64 0, .int .i64 0, .int .i64 0, .int .i64 0, .int .i64 0] 64] ++ [blkC _ B1 #[.int .i64 0, .int .u64 0, .int .i64 0, .int .i64 0, .int .i64 0, .int .i64 0, .int .i64 0, .int .i64 0] 64]) := p1
    clear p1 P1
    obtain ⟨W, S0, eW⟩ := P2.name
    go_wp2_with fail
    rw [← eW.out]
    clear eW G1
    clear b0 b1 b2 b3 b4 b5 b6 b7 fb r0 r1 r2 r3 r4 r5 r6 r7 fr
    obtain ⟨b0, b1, b2, b3, b4, b5, b6, b7, fb⟩ := row8 (S0.get cs'.length (get_l2 cs' _ _).1)
    obtain ⟨r0, r1, r2, r3, r4, r5, r6, r7, fr⟩ := row8 (S0.get (cs'.length + 1) (get_l2 cs' _ _).2)
    have q0 := S0.blkSet _ (get_l2 cs' _ _).2 0 (.int .i64 ((d : Int) + 1))
    rw [set_l21] at q0
    have S1 : Has w0 _ (cs' ++ [blkC _ B #[.int .i64 ((d : Int) + 1), .int .u64 cy, .int .i64 c.mu, .int .i64 0, .int .i64 0, .int .i64 0, .int .i64 0, .int .i64 0] 64] ++ [blkC _ B1 #[.int .i64 ((d : Int) + 1), .int .u64 0, .int .i64 0, .int .i64 0, .int .i64 0, .int .i64 0, .int .i64 0, .int .i64 0] 64]) := q0
    clear q0 S0
    have q1 := S1.blkSet _ (get_l2 cs' _ _).2 1 (.int .u64 cy)
    rw [set_l21] at q1
    have S2 : Has w0 _ (cs' ++ [blkC _ B #[.int .i64 ((d : Int) + 1), .int .u64 cy, .int .i64 c.mu, .int .i64 0, .int .i64 0, .int .i64 0, .int .i64 0, .int .i64 0] 64] ++ [blkC _ B1 #[.int .i64 ((d : Int) + 1), .int .u64 cy, .int .i64 0, .int .i64 0, .int .i64 0, .int .i64 0, .int .i64 0, .int .i64 0] 64]) := q1
    clear q1 S1
    have q2 := S2.blkSet _ (get_l2 cs' _ _).2 2 (.int .i64 c.mu)
    rw [set_l21] at q2
    have S3 : Has w0 _ (cs' ++ [blkC _ B #[.int .i64 ((d : Int) + 1), .int .u64 cy, .int .i64 c.mu, .int .i64 0, .int .i64 0, .int .i64 0, .int .i64 0, .int .i64 0] 64] ++ [blkC _ B1 #[.int .i64 ((d : Int) + 1), .int .u64 cy, .int .i64 c.mu, .int .i64 0, .int .i64 0, .int .i64 0, .int .i64 0, .int .i64 0] 64]) := q2
    clear q2 S2
    have q3 := S3.blkSet _ (get_l2 cs' _ _).2 3 (.int .i64 0)
    rw [set_l21] at q3
    have S4 : Has w0 _ (cs' ++ [blkC _ B #[.int .i64 ((d : Int) + 1), .int .u64 cy, .int .i64 c.mu, .int .i64 0, .int .i64 0, .int .i64 0, .int .i64 0, .int .i64 0] 64] ++ [blkC _ B1 #[.int .i64 ((d : Int) + 1), .int .u64 cy, .int .i64 c.mu, .int .i64 0, .int .i64 0, .int .i64 0, .int .i64 0, .int .i64 0] 64]) := q3
    clear q3 S3
    have q4 := S4.blkSet _ (get_l2 cs' _ _).2 4 (.int .i64 0)
    rw [set_l21] at q4
    have S5 : Has w0 _ (cs' ++ [blkC _ B #[.int .i64 ((d : Int) + 1), .int .u64 cy, .int .i64 c.mu, .int .i64 0, .int .i64 0, .int .i64 0, .int .i64 0, .int .i64 0] 64] ++ [blkC _ B1 #[.int .i64 ((d : Int) + 1), .int .u64 cy, .int .i64 c.mu, .int .i64 0, .int .i64 0, .int .i64 0, .int .i64 0, .int .i64 0] 64]) := q4
    clear q4 S4
    have q5 := S5.blkSet _ (get_l2 cs' _ _).2 5 (.int .i64 0)
    rw [set_l21] at q5
    have S6 : Has w0 _ (cs' ++ [blkC _ B #[.int .i64 ((d : Int) + 1), .int .u64 cy, .int .i64 c.mu, .int .i64 0, .int .i64 0, .int .i64 0, .int .i64 0, .int .i64 0] 64] ++ [blkC _ B1 #[.int .i64 ((d : Int) + 1), .int .u64 cy, .int .i64 c.mu, .int .i64 0, .int .i64 0, .int .i64 0, .int .i64 0, .int .i64 0] 64]) := q5
    clear q5 S5
    have q6 := S6.blkSet _ (get_l2 cs' _ _).2 6 (.int .i64 0)
    rw [set_l21] at q6
    have S7 : Has w0 _ (cs' ++ [blkC _ B #[.int .i64 ((d : Int) + 1), .int .u64 cy, .int .i64 c.mu, .int .i64 0, .int .i64 0, .int .i64 0, .int .i64 0, .int .i64 0] 64] ++ [blkC _ B1 #[.int .i64 ((d : Int) + 1), .int .u64 cy, .int .i64 c.mu, .int .i64 0, .int .i64 0, .int .i64 0, .int .i64 0, .int .i64 0] 64]) := q6
    clear q6 S6
    have q7 := S7.blkSet _ (get_l2 cs' _ _).2 7 (.int .i64 0)
    rw [set_l21] at q7
    have S8 : Has w0 _ (cs' ++ [blkC _ B #[.int .i64 ((d : Int) + 1), .int .u64 cy, .int .i64 c.mu, .int .i64 0, .int .i64 0, .int .i64 0, .int .i64 0, .int .i64 0] 64] ++ [blkC _ B1 #[.int .i64 ((d : Int) + 1), .int .u64 cy, .int .i64 c.mu, .int .i64 0, .int .i64 0, .int .i64 0, .int .i64 0, .int .i64 0] 64]) := q7
    clear q7 S7
    go_wp2_with fail
    obtain ⟨r0, r1, r2, r3, r4, r5, r6, r7, fr⟩ := row8 (S8.get (cs'.length + 1) (get_l2 cs' _ _).2)
    refine bodyPost_ret (v := .agg #[.int .i64 ((d : Int) + 1), .int .u64 cy, .int .i64 c.mu, .int .i64 0, .int .i64 0, .int .i64 0, .int .i64 0, .int .i64 0]) (by simp [results, Try.results55, go_sem, r0, r1, r2, r3, r4, r5, r6, r7]) rfl ⟨by rw [HA.out] <;> rfl, ?_⟩
    have S9 := S8.front.front
    rw [HCS.out] at S9
    exact S9.front.front

end Go.Proofs.Ytgodnmcfbbchoaa
