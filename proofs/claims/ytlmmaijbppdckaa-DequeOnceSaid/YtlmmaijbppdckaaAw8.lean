/- awake and whole of layer 8. -/
import Derived.Test.YtlmmaijbppdckaaDq8s
import Derived.LoopN
set_option linter.unusedVariables false
set_option linter.unusedSimpArgs false
namespace Go.Proofs.Ytlmmaijbppdckaa
open Go.ChangeShapes Go.WideShapes Go.ChangeAt Go.RowKit

theorem sl_of_ownN {w : World} {e : TypeId} {k : IntKind} {v : Value} {xs : List Int} (h : Own w e 1 v xs.length (xs.map (Value.int k))) : Sl w [] k v xs := by
  obtain ⟨a, c, rfl⟩ := own_is h
  by_cases hx : xs = []
  · subst hx
    exact ⟨a, c, rfl, by simp, .inl rfl⟩
  · have hl : 0 < xs.length := List.length_pos_iff.2 hx
    obtain ⟨g, off, rfl, hc, -, hg, hcell, -⟩ := own_atV h hl
    refine ⟨_, c, rfl, hc, .inr ⟨g, off, rfl, hg, by simp, fun j hj => hcell j _ ?_⟩⟩
    rw [List.getElem?_map, List.getElem?_eq_getElem hj]
    rfl

theorem dqRun_ok (e : En) : ∀ (k : Nat) (l : List Int) (m : Dq), Wds l → DqOk m → Wds (dqRun e k (l, m)).1 ∧ DqOk (dqRun e k (l, m)).2
  | 0, l, m, hl, hm => ⟨hl, hm⟩
  | k + 1, l, m, hl, hm => by
    have := dq_ok e hl hm
    exact dqRun_ok e k _ _ this.1 this.2

set_option maxRecDepth 100000 in
theorem whole_h {w0 w : World} {cs : List (Chunk w0.heap.size)} (H : Has w0 w cs) (i j : Nat) {sb g xb : Nat} {l : List Int} {n : Int} {e : En} {m : Dq} (hi : cs[i]? = some (storeC _ sb g l n)) (hij : i ≠ j) (hj : cs[j]? = some (dqC _ xb e m)) (ok : EnOk e) (mo : DqOk m) (hw : Wds l) :
    Calls Try.prog 10 #[.pointer (some ⟨xb, 0, none⟩), .pointer (some ⟨sb, 0, none⟩)] w fun r w' => ∃ n', r = .returned (.tuple #[.int .i64 (dqOut (dqRun e 8 (l, m)).2), .int .u64 (dqW (dqRun e 8 (l, m)).2)]) ∧
      Has w0 w' ((cs.set i (storeC _ sb g (dqRun e 8 (l, m)).1 n')).set j (dqC _ xb e (dqRun e 8 (l, m)).2)) := by
  have IJ := Lib.hid hij
  have HI := Lib.hid hi
  have HJ := Lib.hid hj
  have MO := Lib.hid mo
  have HW := Lib.hid hw
  have e0 : (cs.set i (storeC _ sb g l n)).set j (dqC _ xb e m) = cs := by rw [lset_is8 hi]; exact lset_is8 hj
  have H0 : Has w0 w ((cs.set i (storeC _ sb g l n)).set j (dqC _ xb e m)) := by rw [e0]; exact H
  clear hij hi hj mo hw e0
  obtain ⟨R, hR⟩ : ∃ R, R = dqRun e 8 (l, m) := ⟨_, rfl⟩
  rw [← hR]
  have HR := Lib.hid hR
  clear hR
  go_enter Try.func10, Try.ntmps10
  go_wp2_with fail
  go_loopw [6] (fun kv wr => ∃ (k : Nat) (l' : List Int) (m' : Dq) (n' : Int), k ≤ 8 ∧ kv = .int .i64 k ∧ Hid (R = dqRun e (8 - k) (l', m')) ∧ Hid (DqOk m' ∧ Wds l') ∧ Has w0 wr ((cs.set i (storeC _ sb g l' n')).set j (dqC _ xb e m'))) (fun kv _ => 9 - (intOf kv).toNat)
  case atStart => exact ⟨0, l, m, n, by omega, rfl, HR, Lib.hid ⟨MO.out, HW.out⟩, H0⟩
  case round =>
    obtain ⟨k, l', m', n', hk, rfl, hr, hm, G⟩ := hrel
    clear H0
    have hi2 := set_get8 (lset_same8 HI.out (storeC w0.heap.size sb g l' n')) (dqC w0.heap.size xb e m') (Ne.symm IJ.out)
    have hj2 := lset_same8 (set_get8 HJ.out (storeC w0.heap.size sb g l' n') IJ.out) (dqC w0.heap.size xb e m')
    have HI2 := Lib.hid hi2
    have HJ2 := Lib.hid hj2
    clear hi2 hj2
    by_cases hlt : k < 8
    · have hlt' : (k : Int) < 8 := by omega
      go_wp2_with fail
      refine (dqStep_h G i j HI2.out IJ.out m' HJ2.out ok hm.out.1).mono ?_
      rintro r w1 ⟨rfl, G2⟩
      rw [List.set_comm (dqC _ xb e m') _ (Ne.symm IJ.out), List.set_set, List.set_set] at G2
      go_wp2_with fail
      go_roundw
      case rel => exact ⟨k + 1, _, _, _, by omega, by go_num, Lib.hid (by rw [hr.out, show 8 - k = (8 - (k + 1)) + 1 by omega]; rfl), Lib.hid ⟨(dq_ok e hm.out.2 hm.out.1).2, (dq_ok e hm.out.2 hm.out.1).1⟩, G2⟩
      case measure => simp [intOf]; omega
    · have hge : ¬ (k : Int) < 8 := by omega
      have hf : R = (l', m') := by rw [hr.out, show 8 - k = 0 by omega]; rfl
      have HF := Lib.hid hf
      clear hf
      go_wp2_with fail
      refine (Result_q G j m' HJ2.out hm.out.1.st).mono ?_
      rintro r w1 ⟨rfl, d1, rfl⟩
      go_wp2_with fail
      go_ret2
      rw [HF.out]
      exact ⟨n', rfl, G.drewN _⟩

def e2 : En := ⟨0, 1, 2, 2⟩
theorem e2_ok : EnOk e2 := ⟨by decide, by decide, by decide, by decide⟩
theorem aw8a0 : dqStep e2 [0, 0, 0, 0] (⟨1, 0, 0, 7, 0, false⟩ : Dq) = ([0, 0, 0, 0], (⟨2, 0, 0, 7, 0, false⟩ : Dq)) := by kernel_rfl
theorem ok8a0 : DqOk (⟨1, 0, 0, 7, 0, false⟩ : Dq) := ⟨by decide, by decide, by decide, by decide⟩
theorem aw8a1 : dqStep e2 [0, 0, 0, 0] (⟨2, 0, 0, 7, 0, false⟩ : Dq) = ([0, 0, 0, 0], (⟨3, 0, 0, 7, 0, false⟩ : Dq)) := by kernel_rfl
theorem ok8a1 : DqOk (⟨2, 0, 0, 7, 0, false⟩ : Dq) := ⟨by decide, by decide, by decide, by decide⟩
theorem aw8a2 : dqStep e2 [0, 0, 0, 0] (⟨3, 0, 0, 7, 0, false⟩ : Dq) = ([0, 0, 7, 0], (⟨4, 0, 0, 7, 0, false⟩ : Dq)) := by kernel_rfl
theorem ok8a2 : DqOk (⟨3, 0, 0, 7, 0, false⟩ : Dq) := ⟨by decide, by decide, by decide, by decide⟩
theorem aw8a3 : dqStep e2 [0, 0, 7, 0] (⟨4, 0, 0, 7, 0, false⟩ : Dq) = ([0, 1, 7, 0], (⟨0, 0, 0, 0, 1, false⟩ : Dq)) := by kernel_rfl
theorem ok8a3 : DqOk (⟨4, 0, 0, 7, 0, false⟩ : Dq) := ⟨by decide, by decide, by decide, by decide⟩
theorem aw8b0 : dqStep e2 [0, 1, 7, 0] (⟨11, 0, 0, 0, 0, false⟩ : Dq) = ([0, 1, 7, 0], (⟨12, 0, 0, 0, 0, false⟩ : Dq)) := by kernel_rfl
theorem ok8b0 : DqOk (⟨11, 0, 0, 0, 0, false⟩ : Dq) := ⟨by decide, by decide, by decide, by decide⟩
theorem aw8b1 : dqStep e2 [0, 1, 7, 0] (⟨12, 0, 0, 0, 0, false⟩ : Dq) = ([0, 1, 7, 0], (⟨13, 1, 0, 0, 0, false⟩ : Dq)) := by kernel_rfl
theorem ok8b1 : DqOk (⟨12, 0, 0, 0, 0, false⟩ : Dq) := ⟨by decide, by decide, by decide, by decide⟩
theorem aw8b2 : dqStep e2 [0, 1, 7, 0] (⟨13, 1, 0, 0, 0, false⟩ : Dq) = ([0, 1, 7, 0], (⟨14, 1, 0, 7, 0, false⟩ : Dq)) := by kernel_rfl
theorem ok8b2 : DqOk (⟨13, 1, 0, 0, 0, false⟩ : Dq) := ⟨by decide, by decide, by decide, by decide⟩
theorem aw8b3 : dqStep e2 [0, 1, 7, 0] (⟨14, 1, 0, 7, 0, false⟩ : Dq) = ([1, 1, 7, 0], (⟨0, 1, 0, 7, 1, false⟩ : Dq)) := by kernel_rfl
theorem ok8b3 : DqOk (⟨14, 1, 0, 7, 0, false⟩ : Dq) := ⟨by decide, by decide, by decide, by decide⟩
theorem aw8c0 : dqStep e2 [1, 1, 7, 0] (⟨5, 0, 0, 0, 0, false⟩ : Dq) = ([1, 1, 7, 0], (⟨6, 0, 0, 0, 0, false⟩ : Dq)) := by kernel_rfl
theorem ok8c0 : DqOk (⟨5, 0, 0, 0, 0, false⟩ : Dq) := ⟨by decide, by decide, by decide, by decide⟩
theorem aw8c1 : dqStep e2 [1, 1, 7, 0] (⟨6, 0, 0, 0, 0, false⟩ : Dq) = ([1, 0, 7, 0], (⟨7, 0, 0, 0, 0, false⟩ : Dq)) := by kernel_rfl
theorem ok8c1 : DqOk (⟨6, 0, 0, 0, 0, false⟩ : Dq) := ⟨by decide, by decide, by decide, by decide⟩
theorem aw8c2 : dqStep e2 [1, 0, 7, 0] (⟨7, 0, 0, 0, 0, false⟩ : Dq) = ([1, 0, 7, 0], (⟨10, 0, 1, 0, 0, false⟩ : Dq)) := by kernel_rfl
theorem ok8c2 : DqOk (⟨7, 0, 0, 0, 0, false⟩ : Dq) := ⟨by decide, by decide, by decide, by decide⟩
theorem aw8c3 : dqStep e2 [1, 0, 7, 0] (⟨10, 0, 1, 0, 0, false⟩ : Dq) = ([1, 1, 7, 0], (⟨0, 0, 1, 0, 3, false⟩ : Dq)) := by kernel_rfl
theorem ok8c3 : DqOk (⟨10, 0, 1, 0, 0, false⟩ : Dq) := ⟨by decide, by decide, by decide, by decide⟩

section
variable {w0 w : World} {cs : List (Chunk w0.heap.size)} (H : Has w0 w cs)
include H
theorem Push_e2 : Calls Try.prog 11 #[.agg #[.int .i64 0, .int .i64 1, .int .i64 2, .int .i64 2], .int .u64 7] w fun r w' => ∃ xb, r = .returned (.pointer (some ⟨xb, 0, none⟩)) ∧ Has w0 w' (cs ++ [dqC _ xb e2 (dqPush 7)]) := Push_h H e2 7
theorem Pop_e2 : Calls Try.prog 12 #[.agg #[.int .i64 0, .int .i64 1, .int .i64 2, .int .i64 2]] w fun r w' => ∃ xb, r = .returned (.pointer (some ⟨xb, 0, none⟩)) ∧ Has w0 w' (cs ++ [dqC _ xb e2 dqPop]) := Pop_h H e2
theorem Steal_e2 : Calls Try.prog 13 #[.agg #[.int .i64 0, .int .i64 1, .int .i64 2, .int .i64 2]] w fun r w' => ∃ xb, r = .returned (.pointer (some ⟨xb, 0, none⟩)) ∧ Has w0 w' (cs ++ [dqC _ xb e2 dqSteal]) := Steal_h H e2
end

set_option maxRecDepth 100000 in
set_option maxHeartbeats 4000000 in
theorem awake8 (w : World) : Calls Try.prog 8 #[] w fun r w' => r = .returned (.bool true) ∧ Below w.heap.size w w' := by
  go_enter Try.func8, Try.ntmps8
  have G0 := ((Has.nil w).blkNew #[.int .i64 0, .int .i64 1, .int .i64 2, .int .i64 2] 25).ownLit #[.int .u64 0, .int .u64 0, .int .u64 0, .int .u64 0] 29 1 4 rfl (by decide)
  have z1 : ∀ (w : World) o, (w.alloc o).heap.size = w.heap.size + 1 := fun w o => by simp
  rw [z1] at G0
  clear z1
  go_wp2_with fail
  refine (New_h G0 _ [0, 0, 0, 0] (sl_of_ownN (xs := [0, 0, 0, 0]) (G0.get 1 rfl)) (by decide)).mono ?_
  rintro r w1 ⟨sb, sg, rfl, G1'⟩
  have G1 := G1'.pick [0, 2] (by decide) (by simp)
  clear G0 G1'
  obtain ⟨b0, b1, b2, b3, fb⟩ := row4 (G1.get 0 rfl)
  go_wp2_with fail
  refine (Push_e2 G1).mono ?_
  rintro r w2 ⟨xa, rfl, Ga⟩
  clear b0 b1 b2 b3 fb
  go_wp2_with fail
  refine wp_loop_rounds 4 ?_
  rw [rounds_succ]
  go_wp2_with fail
  refine (dqStep_h Ga 1 2 rfl (by decide) (⟨1, 0, 0, 7, 0, false⟩ : Dq) rfl e2_ok ok8a0).mono ?_
  rw [aw8a0]
  rintro r w3 ⟨rfl, Ga0'⟩
  have Ga0 : Has w w3 [blkC _ w.heap.size #[.int .i64 0, .int .i64 1, .int .i64 2, .int .i64 2] 25, storeC _ sb sg [0, 0, 0, 0] _, dqC _ xa e2 (⟨2, 0, 0, 7, 0, false⟩ : Dq)] := Ga0'
  generalize dqCount _ _ = nn at Ga0
  clear Ga0' Ga
  go_wp2_with fail
  rw [rounds_succ]
  go_wp2_with fail
  refine (dqStep_h Ga0 1 2 rfl (by decide) (⟨2, 0, 0, 7, 0, false⟩ : Dq) rfl e2_ok ok8a1).mono ?_
  rw [aw8a1]
  rintro r w4 ⟨rfl, Ga1'⟩
  have Ga1 : Has w w4 [blkC _ w.heap.size #[.int .i64 0, .int .i64 1, .int .i64 2, .int .i64 2] 25, storeC _ sb sg [0, 0, 0, 0] _, dqC _ xa e2 (⟨3, 0, 0, 7, 0, false⟩ : Dq)] := Ga1'
  generalize dqCount _ _ = nn at Ga1
  clear Ga1' Ga0
  go_wp2_with fail
  rw [rounds_succ]
  go_wp2_with fail
  refine (dqStep_h Ga1 1 2 rfl (by decide) (⟨3, 0, 0, 7, 0, false⟩ : Dq) rfl e2_ok ok8a2).mono ?_
  rw [aw8a2]
  rintro r w5 ⟨rfl, Ga2'⟩
  have Ga2 : Has w w5 [blkC _ w.heap.size #[.int .i64 0, .int .i64 1, .int .i64 2, .int .i64 2] 25, storeC _ sb sg [0, 0, 7, 0] _, dqC _ xa e2 (⟨4, 0, 0, 7, 0, false⟩ : Dq)] := Ga2'
  generalize dqCount _ _ = nn at Ga2
  clear Ga2' Ga1
  go_wp2_with fail
  rw [rounds_succ]
  go_wp2_with fail
  refine (dqStep_h Ga2 1 2 rfl (by decide) (⟨4, 0, 0, 7, 0, false⟩ : Dq) rfl e2_ok ok8a3).mono ?_
  rw [aw8a3]
  rintro r w6 ⟨rfl, Ga3'⟩
  have Ga3 : Has w w6 [blkC _ w.heap.size #[.int .i64 0, .int .i64 1, .int .i64 2, .int .i64 2] 25, storeC _ sb sg [0, 1, 7, 0] _, dqC _ xa e2 (⟨0, 0, 0, 0, 1, false⟩ : Dq)] := Ga3'
  generalize dqCount _ _ = nn at Ga3
  clear Ga3' Ga2
  obtain ⟨b0, b1, b2, b3, fb⟩ := row4 (Ga3.get 0 rfl)
  go_wp2_with fail
  refine (Steal_e2 Ga3).mono ?_
  rintro r w7 ⟨xb, rfl, Gb⟩
  clear b0 b1 b2 b3 fb
  go_wp2_with fail
  refine wp_loop_rounds 4 ?_
  rw [rounds_succ]
  go_wp2_with fail
  refine (dqStep_h Gb 1 3 rfl (by decide) (⟨11, 0, 0, 0, 0, false⟩ : Dq) rfl e2_ok ok8b0).mono ?_
  rw [aw8b0]
  rintro r w8 ⟨rfl, Gb0'⟩
  have Gb0 : Has w w8 [blkC _ w.heap.size #[.int .i64 0, .int .i64 1, .int .i64 2, .int .i64 2] 25, storeC _ sb sg [0, 1, 7, 0] _, dqC _ xa e2 (⟨0, 0, 0, 0, 1, false⟩ : Dq), dqC _ xb e2 (⟨12, 0, 0, 0, 0, false⟩ : Dq)] := Gb0'
  generalize dqCount _ _ = nn at Gb0
  clear Gb0' Gb
  go_wp2_with fail
  rw [rounds_succ]
  go_wp2_with fail
  refine (dqStep_h Gb0 1 3 rfl (by decide) (⟨12, 0, 0, 0, 0, false⟩ : Dq) rfl e2_ok ok8b1).mono ?_
  rw [aw8b1]
  rintro r w9 ⟨rfl, Gb1'⟩
  have Gb1 : Has w w9 [blkC _ w.heap.size #[.int .i64 0, .int .i64 1, .int .i64 2, .int .i64 2] 25, storeC _ sb sg [0, 1, 7, 0] _, dqC _ xa e2 (⟨0, 0, 0, 0, 1, false⟩ : Dq), dqC _ xb e2 (⟨13, 1, 0, 0, 0, false⟩ : Dq)] := Gb1'
  generalize dqCount _ _ = nn at Gb1
  clear Gb1' Gb0
  go_wp2_with fail
  rw [rounds_succ]
  go_wp2_with fail
  refine (dqStep_h Gb1 1 3 rfl (by decide) (⟨13, 1, 0, 0, 0, false⟩ : Dq) rfl e2_ok ok8b2).mono ?_
  rw [aw8b2]
  rintro r w10 ⟨rfl, Gb2'⟩
  have Gb2 : Has w w10 [blkC _ w.heap.size #[.int .i64 0, .int .i64 1, .int .i64 2, .int .i64 2] 25, storeC _ sb sg [0, 1, 7, 0] _, dqC _ xa e2 (⟨0, 0, 0, 0, 1, false⟩ : Dq), dqC _ xb e2 (⟨14, 1, 0, 7, 0, false⟩ : Dq)] := Gb2'
  generalize dqCount _ _ = nn at Gb2
  clear Gb2' Gb1
  go_wp2_with fail
  rw [rounds_succ]
  go_wp2_with fail
  refine (dqStep_h Gb2 1 3 rfl (by decide) (⟨14, 1, 0, 7, 0, false⟩ : Dq) rfl e2_ok ok8b3).mono ?_
  rw [aw8b3]
  rintro r w11 ⟨rfl, Gb3'⟩
  have Gb3 : Has w w11 [blkC _ w.heap.size #[.int .i64 0, .int .i64 1, .int .i64 2, .int .i64 2] 25, storeC _ sb sg [1, 1, 7, 0] _, dqC _ xa e2 (⟨0, 0, 0, 0, 1, false⟩ : Dq), dqC _ xb e2 (⟨0, 1, 0, 7, 1, false⟩ : Dq)] := Gb3'
  generalize dqCount _ _ = nn at Gb3
  clear Gb3' Gb2
  obtain ⟨b0, b1, b2, b3, fb⟩ := row4 (Gb3.get 0 rfl)
  go_wp2_with fail
  refine (Pop_e2 Gb3).mono ?_
  rintro r w12 ⟨xc, rfl, Gc⟩
  clear b0 b1 b2 b3 fb
  go_wp2_with fail
  refine wp_loop_rounds 4 ?_
  rw [rounds_succ]
  go_wp2_with fail
  refine (dqStep_h Gc 1 4 rfl (by decide) (⟨5, 0, 0, 0, 0, false⟩ : Dq) rfl e2_ok ok8c0).mono ?_
  rw [aw8c0]
  rintro r w13 ⟨rfl, Gc0'⟩
  have Gc0 : Has w w13 [blkC _ w.heap.size #[.int .i64 0, .int .i64 1, .int .i64 2, .int .i64 2] 25, storeC _ sb sg [1, 1, 7, 0] _, dqC _ xa e2 (⟨0, 0, 0, 0, 1, false⟩ : Dq), dqC _ xb e2 (⟨0, 1, 0, 7, 1, false⟩ : Dq), dqC _ xc e2 (⟨6, 0, 0, 0, 0, false⟩ : Dq)] := Gc0'
  generalize dqCount _ _ = nn at Gc0
  clear Gc0' Gc
  go_wp2_with fail
  rw [rounds_succ]
  go_wp2_with fail
  refine (dqStep_h Gc0 1 4 rfl (by decide) (⟨6, 0, 0, 0, 0, false⟩ : Dq) rfl e2_ok ok8c1).mono ?_
  rw [aw8c1]
  rintro r w14 ⟨rfl, Gc1'⟩
  have Gc1 : Has w w14 [blkC _ w.heap.size #[.int .i64 0, .int .i64 1, .int .i64 2, .int .i64 2] 25, storeC _ sb sg [1, 0, 7, 0] _, dqC _ xa e2 (⟨0, 0, 0, 0, 1, false⟩ : Dq), dqC _ xb e2 (⟨0, 1, 0, 7, 1, false⟩ : Dq), dqC _ xc e2 (⟨7, 0, 0, 0, 0, false⟩ : Dq)] := Gc1'
  generalize dqCount _ _ = nn at Gc1
  clear Gc1' Gc0
  go_wp2_with fail
  rw [rounds_succ]
  go_wp2_with fail
  refine (dqStep_h Gc1 1 4 rfl (by decide) (⟨7, 0, 0, 0, 0, false⟩ : Dq) rfl e2_ok ok8c2).mono ?_
  rw [aw8c2]
  rintro r w15 ⟨rfl, Gc2'⟩
  have Gc2 : Has w w15 [blkC _ w.heap.size #[.int .i64 0, .int .i64 1, .int .i64 2, .int .i64 2] 25, storeC _ sb sg [1, 0, 7, 0] _, dqC _ xa e2 (⟨0, 0, 0, 0, 1, false⟩ : Dq), dqC _ xb e2 (⟨0, 1, 0, 7, 1, false⟩ : Dq), dqC _ xc e2 (⟨10, 0, 1, 0, 0, false⟩ : Dq)] := Gc2'
  generalize dqCount _ _ = nn at Gc2
  clear Gc2' Gc1
  go_wp2_with fail
  rw [rounds_succ]
  go_wp2_with fail
  refine (dqStep_h Gc2 1 4 rfl (by decide) (⟨10, 0, 1, 0, 0, false⟩ : Dq) rfl e2_ok ok8c3).mono ?_
  rw [aw8c3]
  rintro r w16 ⟨rfl, Gc3'⟩
  have Gc3 : Has w w16 [blkC _ w.heap.size #[.int .i64 0, .int .i64 1, .int .i64 2, .int .i64 2] 25, storeC _ sb sg [1, 1, 7, 0] _, dqC _ xa e2 (⟨0, 0, 0, 0, 1, false⟩ : Dq), dqC _ xb e2 (⟨0, 1, 0, 7, 1, false⟩ : Dq), dqC _ xc e2 (⟨0, 0, 1, 0, 3, false⟩ : Dq)] := Gc3'
  generalize dqCount _ _ = nn at Gc3
  clear Gc3' Gc2
  go_wp2_with fail
  refine (Result_q Gc3 2 (e := e2) (⟨0, 0, 0, 0, 1, false⟩ : Dq) rfl (by decide)).mono ?_
  rintro r w17 ⟨rfl, da, rfl⟩
  dsimp only [dqOut, dqW, cond_true, beq_self_eq_true]
  go_wp2_with fail
  refine (Result_q (Gc3.drewN _) 3 (e := e2) (⟨0, 1, 0, 7, 1, false⟩ : Dq) rfl (by decide)).mono ?_
  rintro r w18 ⟨rfl, db, rfl⟩
  dsimp only [dqOut, dqW, cond_true, beq_self_eq_true]
  go_wp2_with fail
  refine (Result_q (Gc3.drewN _) 4 (e := e2) (⟨0, 0, 1, 0, 3, false⟩ : Dq) rfl (by decide)).mono ?_
  rintro r w19 ⟨rfl, dc, rfl⟩
  dsimp only [dqOut, dqW, cond_true, beq_self_eq_true]
  go_wp2_with fail
  go_ret
  exact ⟨rfl, (Gc3.drewN _).below⟩

end Go.Proofs.Ytlmmaijbppdckaa
