/- The reference's machine of layer 19: Step. Conditions: the configuration may be; words are words. -/
import Derived.Test.YtmiaghbakdapbaaRef19b
set_option linter.unusedVariables false
set_option linter.unusedSimpArgs false
set_option linter.unusedSectionVars false
namespace Go.Proofs.Ytmiaghbakdapbaa
open Go.ChangeShapes Go.WideShapes Go.ChangeAt Go.RowKit

theorem far17 (w : World) (b : Nat) (v0 v1 v2 v3 v4 v5 v6 v7 v8 v9 v10 v11 v12 v13 v14 v15 v16 : Value) (g o : Nat) (h : g ≠ b) : (((((((((((((((((w.setCell ⟨b, 0, none⟩ v0).setCell ⟨b, 1, none⟩ v1).setCell ⟨b, 2, none⟩ v2).setCell ⟨b, 3, none⟩ v3).setCell ⟨b, 4, none⟩ v4).setCell ⟨b, 5, none⟩ v5).setCell ⟨b, 6, none⟩ v6).setCell ⟨b, 7, none⟩ v7).setCell ⟨b, 8, none⟩ v8).setCell ⟨b, 9, none⟩ v9).setCell ⟨b, 10, none⟩ v10).setCell ⟨b, 11, none⟩ v11).setCell ⟨b, 12, none⟩ v12).setCell ⟨b, 13, none⟩ v13).setCell ⟨b, 14, none⟩ v14).setCell ⟨b, 15, none⟩ v15).setCell ⟨b, 16, none⟩ v16).cell? ⟨g, o, none⟩ = w.cell? ⟨g, o, none⟩ := by
  have e : ∀ (w : World) (k : Nat) (v : Value), (w.setCell ⟨b, k, none⟩ v).cell? ⟨g, o, none⟩ = w.cell? ⟨g, o, none⟩ := fun w k v => World.cell?_setCell_far _ _ _ _ (by simp; exact fun q => h q.symm)
  simp only [e]

section
variable {w0 w : World} {cs : List (Chunk w0.heap.size)} (H : Has w0 w cs) (i q : Nat) {mv lv : Value} {l : List Int} {c : Cfg} (n s k mk hh lk v tr ii nd ce e ek ea eb : Int) (hi : cs[i]? = some (slC _ .u64 mv l)) (hq : cs[q]? = some (ownT _ lv c.things)) (h : CfgOk c) (hl : l.length < 1000000000000)
include H hi hq h hl
--[S0
set_option maxRecDepth 100000 in
set_option maxHeartbeats 4000000 in
theorem rst0  :
    Calls Try.prog 29 #[.agg #[lv, .int .i64 n], cfgV c, mv, .agg #[.int .i64 0, .int .i64 s, .int .i64 k, .int .u64 mk, .int .u64 hh, .int .u32 lk, .int .i64 v, .int .i64 tr, .int .i64 ii, .int .i64 nd, .int .i64 ce, .int .i64 e, .int .i64 ek, .int .i64 0, .int .i64 ea, .int .i64 eb, .int .i64 0]] w fun r w' => r = .returned (.tuple #[mv, .agg #[.int .i64 0, .int .i64 s, .int .i64 k, .int .u64 mk, .int .u64 hh, .int .u32 lk, .int .i64 v, .int .i64 tr, .int .i64 ii, .int .i64 nd, .int .i64 ce, .int .i64 e, .int .i64 0, .int .i64 0, .int .i64 0, .int .i64 0, .int .i64 0]]) ∧ Has w0 w' cs := by
  obtain ⟨la, lc, rfl⟩ := own_is (H.get q hq)
  obtain ⟨ma, mc, rfl, -, -⟩ := H.sl i hi
  have HQ := Lib.hid hq
  have HI := Lib.hid hi
  clear hi hq
  unfold cfgV cfgCells
  go_enter Try.func29, Try.ntmps29
  have G0 := (((H.blkNew #[.slice la c.things.length lc, .int .i64 n] 50).blkNew (cfgCells c) 52).blkNew #[.int .i64 0, .int .i64 s, .int .i64 k, .int .u64 mk, .int .u64 hh, .int .u32 lk, .int .i64 v, .int .i64 tr, .int .i64 ii, .int .i64 nd, .int .i64 ce, .int .i64 e, .int .i64 ek, .int .i64 0, .int .i64 ea, .int .i64 eb, .int .i64 0] 59).blkNew #[.int .i64 0, .int .i64 0, .int .i64 0, .int .u64 0, .int .u64 0, .int .u32 0, .int .i64 0, .int .i64 0, .int .i64 0, .int .i64 0, .int .i64 0, .int .i64 0, .int .i64 0, .int .i64 0, .int .i64 0, .int .i64 0, .int .i64 0] 59
  have z1 : ∀ (w : World) o, (w.alloc o).heap.size = w.heap.size + 1 := fun w o => by simp
  simp only [z1] at G0
  rw [app4] at G0
  clear z1
  go_upto_region 1 with (fail)
  obtain ⟨W, HW, eW⟩ := G0.name
  have eW2 := eW.out
  simp only [cfgCells] at eW2
  rw [← eW2]
  clear G0 eW eW2
  obtain ⟨x0, x1, x2, x3, x4, x5, x6, x7, x8, x9, x10, x11, x12, x13, x14, x15, x16, xf⟩ := row17 (HW.tl 2 rfl)
  have q12 := HW.tlSet 2 rfl 12 (.int .i64 0)
  have S12 : Has w0 _ (cs ++ [blkC _ w.heap.size #[.slice la c.things.length lc, .int .i64 n] 50, blkC _ (w.heap.size + 1) (cfgCells c) 52, blkC _ (w.heap.size + 1 + 1) #[.int .i64 0, .int .i64 s, .int .i64 k, .int .u64 mk, .int .u64 hh, .int .u32 lk, .int .i64 v, .int .i64 tr, .int .i64 ii, .int .i64 nd, .int .i64 ce, .int .i64 e, .int .i64 0, .int .i64 0, .int .i64 ea, .int .i64 eb, .int .i64 0] 59, blkC _ (w.heap.size + 1 + 1 + 1) #[.int .i64 0, .int .i64 0, .int .i64 0, .int .u64 0, .int .u64 0, .int .u32 0, .int .i64 0, .int .i64 0, .int .i64 0, .int .i64 0, .int .i64 0, .int .i64 0, .int .i64 0, .int .i64 0, .int .i64 0, .int .i64 0, .int .i64 0] 59]) := q12
  clear q12
  have q13 := S12.tlSet 2 rfl 13 (.int .i64 0)
  have S13 : Has w0 _ (cs ++ [blkC _ w.heap.size #[.slice la c.things.length lc, .int .i64 n] 50, blkC _ (w.heap.size + 1) (cfgCells c) 52, blkC _ (w.heap.size + 1 + 1) #[.int .i64 0, .int .i64 s, .int .i64 k, .int .u64 mk, .int .u64 hh, .int .u32 lk, .int .i64 v, .int .i64 tr, .int .i64 ii, .int .i64 nd, .int .i64 ce, .int .i64 e, .int .i64 0, .int .i64 0, .int .i64 ea, .int .i64 eb, .int .i64 0] 59, blkC _ (w.heap.size + 1 + 1 + 1) #[.int .i64 0, .int .i64 0, .int .i64 0, .int .u64 0, .int .u64 0, .int .u32 0, .int .i64 0, .int .i64 0, .int .i64 0, .int .i64 0, .int .i64 0, .int .i64 0, .int .i64 0, .int .i64 0, .int .i64 0, .int .i64 0, .int .i64 0] 59]) := q13
  clear q13
  have q14 := S13.tlSet 2 rfl 14 (.int .i64 0)
  have S14 : Has w0 _ (cs ++ [blkC _ w.heap.size #[.slice la c.things.length lc, .int .i64 n] 50, blkC _ (w.heap.size + 1) (cfgCells c) 52, blkC _ (w.heap.size + 1 + 1) #[.int .i64 0, .int .i64 s, .int .i64 k, .int .u64 mk, .int .u64 hh, .int .u32 lk, .int .i64 v, .int .i64 tr, .int .i64 ii, .int .i64 nd, .int .i64 ce, .int .i64 e, .int .i64 0, .int .i64 0, .int .i64 0, .int .i64 eb, .int .i64 0] 59, blkC _ (w.heap.size + 1 + 1 + 1) #[.int .i64 0, .int .i64 0, .int .i64 0, .int .u64 0, .int .u64 0, .int .u32 0, .int .i64 0, .int .i64 0, .int .i64 0, .int .i64 0, .int .i64 0, .int .i64 0, .int .i64 0, .int .i64 0, .int .i64 0, .int .i64 0, .int .i64 0] 59]) := q14
  clear q14
  have q15 := S14.tlSet 2 rfl 15 (.int .i64 0)
  have S15 : Has w0 _ (cs ++ [blkC _ w.heap.size #[.slice la c.things.length lc, .int .i64 n] 50, blkC _ (w.heap.size + 1) (cfgCells c) 52, blkC _ (w.heap.size + 1 + 1) #[.int .i64 0, .int .i64 s, .int .i64 k, .int .u64 mk, .int .u64 hh, .int .u32 lk, .int .i64 v, .int .i64 tr, .int .i64 ii, .int .i64 nd, .int .i64 ce, .int .i64 e, .int .i64 0, .int .i64 0, .int .i64 0, .int .i64 0, .int .i64 0] 59, blkC _ (w.heap.size + 1 + 1 + 1) #[.int .i64 0, .int .i64 0, .int .i64 0, .int .u64 0, .int .u64 0, .int .u32 0, .int .i64 0, .int .i64 0, .int .i64 0, .int .i64 0, .int .i64 0, .int .i64 0, .int .i64 0, .int .i64 0, .int .i64 0, .int .i64 0, .int .i64 0] 59]) := q15
  clear q15
  have q16 := S15.tlSet 2 rfl 16 (.int .i64 0)
  have S16 : Has w0 _ (cs ++ [blkC _ w.heap.size #[.slice la c.things.length lc, .int .i64 n] 50, blkC _ (w.heap.size + 1) (cfgCells c) 52, blkC _ (w.heap.size + 1 + 1) #[.int .i64 0, .int .i64 s, .int .i64 k, .int .u64 mk, .int .u64 hh, .int .u32 lk, .int .i64 v, .int .i64 tr, .int .i64 ii, .int .i64 nd, .int .i64 ce, .int .i64 e, .int .i64 0, .int .i64 0, .int .i64 0, .int .i64 0, .int .i64 0] 59, blkC _ (w.heap.size + 1 + 1 + 1) #[.int .i64 0, .int .i64 0, .int .i64 0, .int .u64 0, .int .u64 0, .int .u32 0, .int .i64 0, .int .i64 0, .int .i64 0, .int .i64 0, .int .i64 0, .int .i64 0, .int .i64 0, .int .i64 0, .int .i64 0, .int .i64 0, .int .i64 0] 59]) := q16
  clear q16
  go_upto_region 2 with (fail)
  obtain ⟨W1, HW1', e1⟩ := S16.name
  rw [← e1.out]
  have HW1 : Has w0 W1 (cs ++ [blkC _ w.heap.size #[.slice la c.things.length lc, .int .i64 n] 50, blkC _ (w.heap.size + 1) (cfgCells c) 52, blkC _ (w.heap.size + 1 + 1) #[.int .i64 0, .int .i64 s, .int .i64 k, .int .u64 mk, .int .u64 hh, .int .u32 lk, .int .i64 v, .int .i64 tr, .int .i64 ii, .int .i64 nd, .int .i64 ce, .int .i64 e, .int .i64 0, .int .i64 0, .int .i64 0, .int .i64 0, .int .i64 0] 59, blkC _ (w.heap.size + 1 + 1 + 1) #[.int .i64 0, .int .i64 0, .int .i64 0, .int .u64 0, .int .u64 0, .int .u32 0, .int .i64 0, .int .i64 0, .int .i64 0, .int .i64 0, .int .i64 0, .int .i64 0, .int .i64 0, .int .i64 0, .int .i64 0, .int .i64 0, .int .i64 0] 59]) := HW1'
  clear HW1' e1 S12 S13 S14 S15 S16 HW x0 x1 x2 x3 x4 x5 x6 x7 x8 x9 x10 x11 x12 x13 x14 x15 x16 xf
  have a0 := blk_at (HW1.tl 0 rfl) 0 (u := .slice la c.things.length lc) rfl
  have a1 := blk_at (HW1.tl 0 rfl) 1 (u := .int .i64 n) rfl
  obtain ⟨x0, x1, x2, x3, x4, x5, x6, x7, x8, x9, x10, x11, x12, x13, x14, x15, x16, xf⟩ := row17 (HW1.tl 2 rfl)
  clear a0 a1
  go_upto_region 23 with (fail)
  obtain ⟨W5, HW5', e5⟩ := HW1.name
  have e5' := e5.out
  subst e5'
  have HW5 : Has w0 W5 (cs ++ [blkC _ w.heap.size #[.slice la c.things.length lc, .int .i64 n] 50, blkC _ (w.heap.size + 1) (cfgCells c) 52, blkC _ (w.heap.size + 1 + 1) #[.int .i64 0, .int .i64 s, .int .i64 k, .int .u64 mk, .int .u64 hh, .int .u32 lk, .int .i64 v, .int .i64 tr, .int .i64 ii, .int .i64 nd, .int .i64 ce, .int .i64 e, .int .i64 0, .int .i64 0, .int .i64 0, .int .i64 0, .int .i64 0] 59, blkC _ (w.heap.size + 1 + 1 + 1) #[.int .i64 0, .int .i64 0, .int .i64 0, .int .u64 0, .int .u64 0, .int .u32 0, .int .i64 0, .int .i64 0, .int .i64 0, .int .i64 0, .int .i64 0, .int .i64 0, .int .i64 0, .int .i64 0, .int .i64 0, .int .i64 0, .int .i64 0] 59]) := HW5'
  clear HW5' e5
  refine wp_region_still_tail 3 (by kernel_rfl) (by kernel_rfl) ?_
  simp only [List.take_succ_cons, List.take_zero, List.drop_succ_cons, List.drop_zero]
  change wpStill _ _ W5.drew _ _ _
  still_step
  refine still_getM (row17 (HW5.drew.tl 2 rfl)) rfl (.tmp 7) rfl rfl ?_
  still_step
  refine wpStill_nil ?_
  change wpList _ _ _ _ _ W5.drew
  go_wp2_with (refine wpl_putM HW5.drew 3 rfl rfl (.tmp 9) _ rfl rfl rfl (by simp [Value.oneCell']) ?_; intro w9 G9)
  have R := row17 (G9.tl 3 rfl)
  exact bodyPost_ret (resM2 R Try.results29 rfl rfl) rfl ⟨rfl, (Has.untail _ _ G9)⟩
--]S0
--[S1
set_option maxRecDepth 100000 in
set_option maxHeartbeats 4000000 in
theorem rst1 (hw : 0 ≤ mld l (c.headAt k) ∧ mld l (c.headAt k) < 18446744073709551616) :
    Calls Try.prog 29 #[.agg #[lv, .int .i64 n], cfgV c, mv, .agg #[.int .i64 1, .int .i64 s, .int .i64 k, .int .u64 mk, .int .u64 hh, .int .u32 lk, .int .i64 v, .int .i64 tr, .int .i64 ii, .int .i64 nd, .int .i64 ce, .int .i64 e, .int .i64 ek, .int .i64 0, .int .i64 ea, .int .i64 eb, .int .i64 0]] w fun r w' => r = .returned (.tuple #[mv, .agg #[.int .i64 ((hpPc (mld l (c.headAt k) % 4294967296 == 0) 0 2 : Nat) : Int), .int .i64 s, .int .i64 k, .int .u64 mk, .int .u64 (mld l (c.headAt k)), .int .u32 lk, .int .i64 (mld l (c.headAt k) % 4294967296), .int .i64 (wrap64 (tr + 1)), .int .i64 ii, .int .i64 nd, .int .i64 ce, .int .i64 (hpE (mld l (c.headAt k) % 4294967296 == 0) 22 e), .int .i64 0, .int .i64 0, .int .i64 0, .int .i64 0, .int .i64 0]]) ∧ Has w0 w' cs := by
  obtain ⟨la, lc, rfl⟩ := own_is (H.get q hq)
  obtain ⟨ma, mc, rfl, -, -⟩ := H.sl i hi
  have HQ := Lib.hid hq
  have HI := Lib.hid hi
  clear hi hq
  unfold cfgV cfgCells
  go_enter Try.func29, Try.ntmps29
  have G0 := (((H.blkNew #[.slice la c.things.length lc, .int .i64 n] 50).blkNew (cfgCells c) 52).blkNew #[.int .i64 1, .int .i64 s, .int .i64 k, .int .u64 mk, .int .u64 hh, .int .u32 lk, .int .i64 v, .int .i64 tr, .int .i64 ii, .int .i64 nd, .int .i64 ce, .int .i64 e, .int .i64 ek, .int .i64 0, .int .i64 ea, .int .i64 eb, .int .i64 0] 59).blkNew #[.int .i64 0, .int .i64 0, .int .i64 0, .int .u64 0, .int .u64 0, .int .u32 0, .int .i64 0, .int .i64 0, .int .i64 0, .int .i64 0, .int .i64 0, .int .i64 0, .int .i64 0, .int .i64 0, .int .i64 0, .int .i64 0, .int .i64 0] 59
  have z1 : ∀ (w : World) o, (w.alloc o).heap.size = w.heap.size + 1 := fun w o => by simp
  simp only [z1] at G0
  rw [app4] at G0
  clear z1
  go_upto_region 1 with (fail)
  obtain ⟨W, HW, eW⟩ := G0.name
  have eW2 := eW.out
  simp only [cfgCells] at eW2
  rw [← eW2]
  clear G0 eW eW2
  obtain ⟨x0, x1, x2, x3, x4, x5, x6, x7, x8, x9, x10, x11, x12, x13, x14, x15, x16, xf⟩ := row17 (HW.tl 2 rfl)
  have q12 := HW.tlSet 2 rfl 12 (.int .i64 0)
  have S12 : Has w0 _ (cs ++ [blkC _ w.heap.size #[.slice la c.things.length lc, .int .i64 n] 50, blkC _ (w.heap.size + 1) (cfgCells c) 52, blkC _ (w.heap.size + 1 + 1) #[.int .i64 1, .int .i64 s, .int .i64 k, .int .u64 mk, .int .u64 hh, .int .u32 lk, .int .i64 v, .int .i64 tr, .int .i64 ii, .int .i64 nd, .int .i64 ce, .int .i64 e, .int .i64 0, .int .i64 0, .int .i64 ea, .int .i64 eb, .int .i64 0] 59, blkC _ (w.heap.size + 1 + 1 + 1) #[.int .i64 0, .int .i64 0, .int .i64 0, .int .u64 0, .int .u64 0, .int .u32 0, .int .i64 0, .int .i64 0, .int .i64 0, .int .i64 0, .int .i64 0, .int .i64 0, .int .i64 0, .int .i64 0, .int .i64 0, .int .i64 0, .int .i64 0] 59]) := q12
  clear q12
  have q13 := S12.tlSet 2 rfl 13 (.int .i64 0)
  have S13 : Has w0 _ (cs ++ [blkC _ w.heap.size #[.slice la c.things.length lc, .int .i64 n] 50, blkC _ (w.heap.size + 1) (cfgCells c) 52, blkC _ (w.heap.size + 1 + 1) #[.int .i64 1, .int .i64 s, .int .i64 k, .int .u64 mk, .int .u64 hh, .int .u32 lk, .int .i64 v, .int .i64 tr, .int .i64 ii, .int .i64 nd, .int .i64 ce, .int .i64 e, .int .i64 0, .int .i64 0, .int .i64 ea, .int .i64 eb, .int .i64 0] 59, blkC _ (w.heap.size + 1 + 1 + 1) #[.int .i64 0, .int .i64 0, .int .i64 0, .int .u64 0, .int .u64 0, .int .u32 0, .int .i64 0, .int .i64 0, .int .i64 0, .int .i64 0, .int .i64 0, .int .i64 0, .int .i64 0, .int .i64 0, .int .i64 0, .int .i64 0, .int .i64 0] 59]) := q13
  clear q13
  have q14 := S13.tlSet 2 rfl 14 (.int .i64 0)
  have S14 : Has w0 _ (cs ++ [blkC _ w.heap.size #[.slice la c.things.length lc, .int .i64 n] 50, blkC _ (w.heap.size + 1) (cfgCells c) 52, blkC _ (w.heap.size + 1 + 1) #[.int .i64 1, .int .i64 s, .int .i64 k, .int .u64 mk, .int .u64 hh, .int .u32 lk, .int .i64 v, .int .i64 tr, .int .i64 ii, .int .i64 nd, .int .i64 ce, .int .i64 e, .int .i64 0, .int .i64 0, .int .i64 0, .int .i64 eb, .int .i64 0] 59, blkC _ (w.heap.size + 1 + 1 + 1) #[.int .i64 0, .int .i64 0, .int .i64 0, .int .u64 0, .int .u64 0, .int .u32 0, .int .i64 0, .int .i64 0, .int .i64 0, .int .i64 0, .int .i64 0, .int .i64 0, .int .i64 0, .int .i64 0, .int .i64 0, .int .i64 0, .int .i64 0] 59]) := q14
  clear q14
  have q15 := S14.tlSet 2 rfl 15 (.int .i64 0)
  have S15 : Has w0 _ (cs ++ [blkC _ w.heap.size #[.slice la c.things.length lc, .int .i64 n] 50, blkC _ (w.heap.size + 1) (cfgCells c) 52, blkC _ (w.heap.size + 1 + 1) #[.int .i64 1, .int .i64 s, .int .i64 k, .int .u64 mk, .int .u64 hh, .int .u32 lk, .int .i64 v, .int .i64 tr, .int .i64 ii, .int .i64 nd, .int .i64 ce, .int .i64 e, .int .i64 0, .int .i64 0, .int .i64 0, .int .i64 0, .int .i64 0] 59, blkC _ (w.heap.size + 1 + 1 + 1) #[.int .i64 0, .int .i64 0, .int .i64 0, .int .u64 0, .int .u64 0, .int .u32 0, .int .i64 0, .int .i64 0, .int .i64 0, .int .i64 0, .int .i64 0, .int .i64 0, .int .i64 0, .int .i64 0, .int .i64 0, .int .i64 0, .int .i64 0] 59]) := q15
  clear q15
  have q16 := S15.tlSet 2 rfl 16 (.int .i64 0)
  have S16 : Has w0 _ (cs ++ [blkC _ w.heap.size #[.slice la c.things.length lc, .int .i64 n] 50, blkC _ (w.heap.size + 1) (cfgCells c) 52, blkC _ (w.heap.size + 1 + 1) #[.int .i64 1, .int .i64 s, .int .i64 k, .int .u64 mk, .int .u64 hh, .int .u32 lk, .int .i64 v, .int .i64 tr, .int .i64 ii, .int .i64 nd, .int .i64 ce, .int .i64 e, .int .i64 0, .int .i64 0, .int .i64 0, .int .i64 0, .int .i64 0] 59, blkC _ (w.heap.size + 1 + 1 + 1) #[.int .i64 0, .int .i64 0, .int .i64 0, .int .u64 0, .int .u64 0, .int .u32 0, .int .i64 0, .int .i64 0, .int .i64 0, .int .i64 0, .int .i64 0, .int .i64 0, .int .i64 0, .int .i64 0, .int .i64 0, .int .i64 0, .int .i64 0] 59]) := q16
  clear q16
  go_upto_region 2 with (fail)
  obtain ⟨W1, HW1', e1⟩ := S16.name
  rw [← e1.out]
  have HW1 : Has w0 W1 (cs ++ [blkC _ w.heap.size #[.slice la c.things.length lc, .int .i64 n] 50, blkC _ (w.heap.size + 1) (cfgCells c) 52, blkC _ (w.heap.size + 1 + 1) #[.int .i64 1, .int .i64 s, .int .i64 k, .int .u64 mk, .int .u64 hh, .int .u32 lk, .int .i64 v, .int .i64 tr, .int .i64 ii, .int .i64 nd, .int .i64 ce, .int .i64 e, .int .i64 0, .int .i64 0, .int .i64 0, .int .i64 0, .int .i64 0] 59, blkC _ (w.heap.size + 1 + 1 + 1) #[.int .i64 0, .int .i64 0, .int .i64 0, .int .u64 0, .int .u64 0, .int .u32 0, .int .i64 0, .int .i64 0, .int .i64 0, .int .i64 0, .int .i64 0, .int .i64 0, .int .i64 0, .int .i64 0, .int .i64 0, .int .i64 0, .int .i64 0] 59]) := HW1'
  clear HW1' e1 S12 S13 S14 S15 S16 HW x0 x1 x2 x3 x4 x5 x6 x7 x8 x9 x10 x11 x12 x13 x14 x15 x16 xf
  have a0 := blk_at (HW1.tl 0 rfl) 0 (u := .slice la c.things.length lc) rfl
  have a1 := blk_at (HW1.tl 0 rfl) 1 (u := .int .i64 n) rfl
  obtain ⟨x0, x1, x2, x3, x4, x5, x6, x7, x8, x9, x10, x11, x12, x13, x14, x15, x16, xf⟩ := row17 (HW1.tl 2 rfl)
  go_wp2_with (refine wpl_getM (row17 (HW1.tl 2 rfl)) rfl (.tmp 7) rfl rfl ?_)
  refine (rtake1 HW1 i q n s k mk hh lk v tr ii nd ce e (hd_get HI.out _) (hd_get HQ.out _) h hl hw).mono ?_
  rintro r w2 ⟨rfl, G2⟩
  go_wp2_with (refine wpl_putM G2 3 rfl rfl (.tmp 9) _ rfl rfl rfl (by simp [Value.oneCell']) ?_; intro w9 G9)
  have R := row17 (G9.tl 3 rfl)
  exact bodyPost_ret (resM2 R Try.results29 rfl rfl) rfl ⟨rfl, (Has.untail _ _ G9)⟩
--]S1
--[S2
set_option maxRecDepth 100000 in
set_option maxHeartbeats 4000000 in
theorem rst2 (hw : 0 ≤ mld l (c.nodeAt v 3) ∧ mld l (c.nodeAt v 3) < 18446744073709551616) :
    Calls Try.prog 29 #[.agg #[lv, .int .i64 n], cfgV c, mv, .agg #[.int .i64 2, .int .i64 s, .int .i64 k, .int .u64 mk, .int .u64 hh, .int .u32 lk, .int .i64 v, .int .i64 tr, .int .i64 ii, .int .i64 nd, .int .i64 ce, .int .i64 e, .int .i64 ek, .int .i64 0, .int .i64 ea, .int .i64 eb, .int .i64 0]] w fun r w' => r = .returned (.tuple #[mv, .agg #[.int .i64 3, .int .i64 s, .int .i64 k, .int .u64 mk, .int .u64 hh, .int .u32 (mld l (c.nodeAt v 3) % 4294967296), .int .i64 v, .int .i64 tr, .int .i64 ii, .int .i64 nd, .int .i64 ce, .int .i64 e, .int .i64 0, .int .i64 0, .int .i64 0, .int .i64 0, .int .i64 0]]) ∧ Has w0 w' cs := by
  obtain ⟨la, lc, rfl⟩ := own_is (H.get q hq)
  obtain ⟨ma, mc, rfl, -, -⟩ := H.sl i hi
  have HQ := Lib.hid hq
  have HI := Lib.hid hi
  clear hi hq
  unfold cfgV cfgCells
  go_enter Try.func29, Try.ntmps29
  have G0 := (((H.blkNew #[.slice la c.things.length lc, .int .i64 n] 50).blkNew (cfgCells c) 52).blkNew #[.int .i64 2, .int .i64 s, .int .i64 k, .int .u64 mk, .int .u64 hh, .int .u32 lk, .int .i64 v, .int .i64 tr, .int .i64 ii, .int .i64 nd, .int .i64 ce, .int .i64 e, .int .i64 ek, .int .i64 0, .int .i64 ea, .int .i64 eb, .int .i64 0] 59).blkNew #[.int .i64 0, .int .i64 0, .int .i64 0, .int .u64 0, .int .u64 0, .int .u32 0, .int .i64 0, .int .i64 0, .int .i64 0, .int .i64 0, .int .i64 0, .int .i64 0, .int .i64 0, .int .i64 0, .int .i64 0, .int .i64 0, .int .i64 0] 59
  have z1 : ∀ (w : World) o, (w.alloc o).heap.size = w.heap.size + 1 := fun w o => by simp
  simp only [z1] at G0
  rw [app4] at G0
  clear z1
  go_upto_region 1 with (fail)
  obtain ⟨W, HW, eW⟩ := G0.name
  have eW2 := eW.out
  simp only [cfgCells] at eW2
  rw [← eW2]
  clear G0 eW eW2
  obtain ⟨x0, x1, x2, x3, x4, x5, x6, x7, x8, x9, x10, x11, x12, x13, x14, x15, x16, xf⟩ := row17 (HW.tl 2 rfl)
  have q12 := HW.tlSet 2 rfl 12 (.int .i64 0)
  have S12 : Has w0 _ (cs ++ [blkC _ w.heap.size #[.slice la c.things.length lc, .int .i64 n] 50, blkC _ (w.heap.size + 1) (cfgCells c) 52, blkC _ (w.heap.size + 1 + 1) #[.int .i64 2, .int .i64 s, .int .i64 k, .int .u64 mk, .int .u64 hh, .int .u32 lk, .int .i64 v, .int .i64 tr, .int .i64 ii, .int .i64 nd, .int .i64 ce, .int .i64 e, .int .i64 0, .int .i64 0, .int .i64 ea, .int .i64 eb, .int .i64 0] 59, blkC _ (w.heap.size + 1 + 1 + 1) #[.int .i64 0, .int .i64 0, .int .i64 0, .int .u64 0, .int .u64 0, .int .u32 0, .int .i64 0, .int .i64 0, .int .i64 0, .int .i64 0, .int .i64 0, .int .i64 0, .int .i64 0, .int .i64 0, .int .i64 0, .int .i64 0, .int .i64 0] 59]) := q12
  clear q12
  have q13 := S12.tlSet 2 rfl 13 (.int .i64 0)
  have S13 : Has w0 _ (cs ++ [blkC _ w.heap.size #[.slice la c.things.length lc, .int .i64 n] 50, blkC _ (w.heap.size + 1) (cfgCells c) 52, blkC _ (w.heap.size + 1 + 1) #[.int .i64 2, .int .i64 s, .int .i64 k, .int .u64 mk, .int .u64 hh, .int .u32 lk, .int .i64 v, .int .i64 tr, .int .i64 ii, .int .i64 nd, .int .i64 ce, .int .i64 e, .int .i64 0, .int .i64 0, .int .i64 ea, .int .i64 eb, .int .i64 0] 59, blkC _ (w.heap.size + 1 + 1 + 1) #[.int .i64 0, .int .i64 0, .int .i64 0, .int .u64 0, .int .u64 0, .int .u32 0, .int .i64 0, .int .i64 0, .int .i64 0, .int .i64 0, .int .i64 0, .int .i64 0, .int .i64 0, .int .i64 0, .int .i64 0, .int .i64 0, .int .i64 0] 59]) := q13
  clear q13
  have q14 := S13.tlSet 2 rfl 14 (.int .i64 0)
  have S14 : Has w0 _ (cs ++ [blkC _ w.heap.size #[.slice la c.things.length lc, .int .i64 n] 50, blkC _ (w.heap.size + 1) (cfgCells c) 52, blkC _ (w.heap.size + 1 + 1) #[.int .i64 2, .int .i64 s, .int .i64 k, .int .u64 mk, .int .u64 hh, .int .u32 lk, .int .i64 v, .int .i64 tr, .int .i64 ii, .int .i64 nd, .int .i64 ce, .int .i64 e, .int .i64 0, .int .i64 0, .int .i64 0, .int .i64 eb, .int .i64 0] 59, blkC _ (w.heap.size + 1 + 1 + 1) #[.int .i64 0, .int .i64 0, .int .i64 0, .int .u64 0, .int .u64 0, .int .u32 0, .int .i64 0, .int .i64 0, .int .i64 0, .int .i64 0, .int .i64 0, .int .i64 0, .int .i64 0, .int .i64 0, .int .i64 0, .int .i64 0, .int .i64 0] 59]) := q14
  clear q14
  have q15 := S14.tlSet 2 rfl 15 (.int .i64 0)
  have S15 : Has w0 _ (cs ++ [blkC _ w.heap.size #[.slice la c.things.length lc, .int .i64 n] 50, blkC _ (w.heap.size + 1) (cfgCells c) 52, blkC _ (w.heap.size + 1 + 1) #[.int .i64 2, .int .i64 s, .int .i64 k, .int .u64 mk, .int .u64 hh, .int .u32 lk, .int .i64 v, .int .i64 tr, .int .i64 ii, .int .i64 nd, .int .i64 ce, .int .i64 e, .int .i64 0, .int .i64 0, .int .i64 0, .int .i64 0, .int .i64 0] 59, blkC _ (w.heap.size + 1 + 1 + 1) #[.int .i64 0, .int .i64 0, .int .i64 0, .int .u64 0, .int .u64 0, .int .u32 0, .int .i64 0, .int .i64 0, .int .i64 0, .int .i64 0, .int .i64 0, .int .i64 0, .int .i64 0, .int .i64 0, .int .i64 0, .int .i64 0, .int .i64 0] 59]) := q15
  clear q15
  have q16 := S15.tlSet 2 rfl 16 (.int .i64 0)
  have S16 : Has w0 _ (cs ++ [blkC _ w.heap.size #[.slice la c.things.length lc, .int .i64 n] 50, blkC _ (w.heap.size + 1) (cfgCells c) 52, blkC _ (w.heap.size + 1 + 1) #[.int .i64 2, .int .i64 s, .int .i64 k, .int .u64 mk, .int .u64 hh, .int .u32 lk, .int .i64 v, .int .i64 tr, .int .i64 ii, .int .i64 nd, .int .i64 ce, .int .i64 e, .int .i64 0, .int .i64 0, .int .i64 0, .int .i64 0, .int .i64 0] 59, blkC _ (w.heap.size + 1 + 1 + 1) #[.int .i64 0, .int .i64 0, .int .i64 0, .int .u64 0, .int .u64 0, .int .u32 0, .int .i64 0, .int .i64 0, .int .i64 0, .int .i64 0, .int .i64 0, .int .i64 0, .int .i64 0, .int .i64 0, .int .i64 0, .int .i64 0, .int .i64 0] 59]) := q16
  clear q16
  go_upto_region 2 with (fail)
  obtain ⟨W1, HW1', e1⟩ := S16.name
  rw [← e1.out]
  have HW1 : Has w0 W1 (cs ++ [blkC _ w.heap.size #[.slice la c.things.length lc, .int .i64 n] 50, blkC _ (w.heap.size + 1) (cfgCells c) 52, blkC _ (w.heap.size + 1 + 1) #[.int .i64 2, .int .i64 s, .int .i64 k, .int .u64 mk, .int .u64 hh, .int .u32 lk, .int .i64 v, .int .i64 tr, .int .i64 ii, .int .i64 nd, .int .i64 ce, .int .i64 e, .int .i64 0, .int .i64 0, .int .i64 0, .int .i64 0, .int .i64 0] 59, blkC _ (w.heap.size + 1 + 1 + 1) #[.int .i64 0, .int .i64 0, .int .i64 0, .int .u64 0, .int .u64 0, .int .u32 0, .int .i64 0, .int .i64 0, .int .i64 0, .int .i64 0, .int .i64 0, .int .i64 0, .int .i64 0, .int .i64 0, .int .i64 0, .int .i64 0, .int .i64 0] 59]) := HW1'
  clear HW1' e1 S12 S13 S14 S15 S16 HW x0 x1 x2 x3 x4 x5 x6 x7 x8 x9 x10 x11 x12 x13 x14 x15 x16 xf
  have a0 := blk_at (HW1.tl 0 rfl) 0 (u := .slice la c.things.length lc) rfl
  have a1 := blk_at (HW1.tl 0 rfl) 1 (u := .int .i64 n) rfl
  obtain ⟨x0, x1, x2, x3, x4, x5, x6, x7, x8, x9, x10, x11, x12, x13, x14, x15, x16, xf⟩ := row17 (HW1.tl 2 rfl)
  go_wp2_with (refine wpl_getM (row17 (HW1.tl 2 rfl)) rfl (.tmp 7) rfl rfl ?_)
  refine (rtake2 HW1 i q n s k mk hh lk v tr ii nd ce e (hd_get HI.out _) (hd_get HQ.out _) h hl hw).mono ?_
  rintro r w2 ⟨rfl, G2⟩
  go_wp2_with (refine wpl_putM G2 3 rfl rfl (.tmp 9) _ rfl rfl rfl (by simp [Value.oneCell']) ?_; intro w9 G9)
  have R := row17 (G9.tl 3 rfl)
  exact bodyPost_ret (resM2 R Try.results29 rfl rfl) rfl ⟨rfl, (Has.untail _ _ G9)⟩
--]S2
--[S3
set_option maxRecDepth 100000 in
set_option maxHeartbeats 4000000 in
theorem rst3 (hw0 : 0 ≤ hh) (hw1 : hh < 18446744073709551616) (l0 : 0 ≤ lk) (l1 : lk < 4294967296) :
    Calls Try.prog 29 #[.agg #[lv, .int .i64 n], cfgV c, mv, .agg #[.int .i64 3, .int .i64 s, .int .i64 k, .int .u64 mk, .int .u64 hh, .int .u32 lk, .int .i64 v, .int .i64 tr, .int .i64 ii, .int .i64 nd, .int .i64 ce, .int .i64 e, .int .i64 ek, .int .i64 0, .int .i64 ea, .int .i64 eb, .int .i64 0]] w fun r w' => ∃ mv', r = .returned (.tuple #[mv', .agg #[.int .i64 ((hpPc (mswapped l (c.headAt k) hh) 4 (hpPc (tr == 4) 0 1) : Nat) : Int), .int .i64 s, .int .i64 k, .int .u64 mk, .int .u64 hh, .int .u32 lk, .int .i64 v, .int .i64 tr, .int .i64 ii, .int .i64 nd, .int .i64 (hpE (mswapped l (c.headAt k) hh) v ce), .int .i64 (hpE (mswapped l (c.headAt k) hh) e (hpE (tr == 4) 23 e)), .int .i64 0, .int .i64 0, .int .i64 0, .int .i64 0, .int .i64 0]]) ∧ Has w0 w' (cs.set i (slC _ .u64 mv' (mswap l (c.headAt k) hh (wTurn hh lk)))) := by
  obtain ⟨la, lc, rfl⟩ := own_is (H.get q hq)
  obtain ⟨ma, mc, rfl, -, -⟩ := H.sl i hi
  have HQ := Lib.hid hq
  have HI := Lib.hid hi
  clear hi hq
  unfold cfgV cfgCells
  go_enter Try.func29, Try.ntmps29
  have G0 := (((H.blkNew #[.slice la c.things.length lc, .int .i64 n] 50).blkNew (cfgCells c) 52).blkNew #[.int .i64 3, .int .i64 s, .int .i64 k, .int .u64 mk, .int .u64 hh, .int .u32 lk, .int .i64 v, .int .i64 tr, .int .i64 ii, .int .i64 nd, .int .i64 ce, .int .i64 e, .int .i64 ek, .int .i64 0, .int .i64 ea, .int .i64 eb, .int .i64 0] 59).blkNew #[.int .i64 0, .int .i64 0, .int .i64 0, .int .u64 0, .int .u64 0, .int .u32 0, .int .i64 0, .int .i64 0, .int .i64 0, .int .i64 0, .int .i64 0, .int .i64 0, .int .i64 0, .int .i64 0, .int .i64 0, .int .i64 0, .int .i64 0] 59
  have z1 : ∀ (w : World) o, (w.alloc o).heap.size = w.heap.size + 1 := fun w o => by simp
  simp only [z1] at G0
  rw [app4] at G0
  clear z1
  go_upto_region 1 with (fail)
  obtain ⟨W, HW, eW⟩ := G0.name
  have eW2 := eW.out
  simp only [cfgCells] at eW2
  rw [← eW2]
  clear G0 eW eW2
  obtain ⟨x0, x1, x2, x3, x4, x5, x6, x7, x8, x9, x10, x11, x12, x13, x14, x15, x16, xf⟩ := row17 (HW.tl 2 rfl)
  have q12 := HW.tlSet 2 rfl 12 (.int .i64 0)
  have S12 : Has w0 _ (cs ++ [blkC _ w.heap.size #[.slice la c.things.length lc, .int .i64 n] 50, blkC _ (w.heap.size + 1) (cfgCells c) 52, blkC _ (w.heap.size + 1 + 1) #[.int .i64 3, .int .i64 s, .int .i64 k, .int .u64 mk, .int .u64 hh, .int .u32 lk, .int .i64 v, .int .i64 tr, .int .i64 ii, .int .i64 nd, .int .i64 ce, .int .i64 e, .int .i64 0, .int .i64 0, .int .i64 ea, .int .i64 eb, .int .i64 0] 59, blkC _ (w.heap.size + 1 + 1 + 1) #[.int .i64 0, .int .i64 0, .int .i64 0, .int .u64 0, .int .u64 0, .int .u32 0, .int .i64 0, .int .i64 0, .int .i64 0, .int .i64 0, .int .i64 0, .int .i64 0, .int .i64 0, .int .i64 0, .int .i64 0, .int .i64 0, .int .i64 0] 59]) := q12
  clear q12
  have q13 := S12.tlSet 2 rfl 13 (.int .i64 0)
  have S13 : Has w0 _ (cs ++ [blkC _ w.heap.size #[.slice la c.things.length lc, .int .i64 n] 50, blkC _ (w.heap.size + 1) (cfgCells c) 52, blkC _ (w.heap.size + 1 + 1) #[.int .i64 3, .int .i64 s, .int .i64 k, .int .u64 mk, .int .u64 hh, .int .u32 lk, .int .i64 v, .int .i64 tr, .int .i64 ii, .int .i64 nd, .int .i64 ce, .int .i64 e, .int .i64 0, .int .i64 0, .int .i64 ea, .int .i64 eb, .int .i64 0] 59, blkC _ (w.heap.size + 1 + 1 + 1) #[.int .i64 0, .int .i64 0, .int .i64 0, .int .u64 0, .int .u64 0, .int .u32 0, .int .i64 0, .int .i64 0, .int .i64 0, .int .i64 0, .int .i64 0, .int .i64 0, .int .i64 0, .int .i64 0, .int .i64 0, .int .i64 0, .int .i64 0] 59]) := q13
  clear q13
  have q14 := S13.tlSet 2 rfl 14 (.int .i64 0)
  have S14 : Has w0 _ (cs ++ [blkC _ w.heap.size #[.slice la c.things.length lc, .int .i64 n] 50, blkC _ (w.heap.size + 1) (cfgCells c) 52, blkC _ (w.heap.size + 1 + 1) #[.int .i64 3, .int .i64 s, .int .i64 k, .int .u64 mk, .int .u64 hh, .int .u32 lk, .int .i64 v, .int .i64 tr, .int .i64 ii, .int .i64 nd, .int .i64 ce, .int .i64 e, .int .i64 0, .int .i64 0, .int .i64 0, .int .i64 eb, .int .i64 0] 59, blkC _ (w.heap.size + 1 + 1 + 1) #[.int .i64 0, .int .i64 0, .int .i64 0, .int .u64 0, .int .u64 0, .int .u32 0, .int .i64 0, .int .i64 0, .int .i64 0, .int .i64 0, .int .i64 0, .int .i64 0, .int .i64 0, .int .i64 0, .int .i64 0, .int .i64 0, .int .i64 0] 59]) := q14
  clear q14
  have q15 := S14.tlSet 2 rfl 15 (.int .i64 0)
  have S15 : Has w0 _ (cs ++ [blkC _ w.heap.size #[.slice la c.things.length lc, .int .i64 n] 50, blkC _ (w.heap.size + 1) (cfgCells c) 52, blkC _ (w.heap.size + 1 + 1) #[.int .i64 3, .int .i64 s, .int .i64 k, .int .u64 mk, .int .u64 hh, .int .u32 lk, .int .i64 v, .int .i64 tr, .int .i64 ii, .int .i64 nd, .int .i64 ce, .int .i64 e, .int .i64 0, .int .i64 0, .int .i64 0, .int .i64 0, .int .i64 0] 59, blkC _ (w.heap.size + 1 + 1 + 1) #[.int .i64 0, .int .i64 0, .int .i64 0, .int .u64 0, .int .u64 0, .int .u32 0, .int .i64 0, .int .i64 0, .int .i64 0, .int .i64 0, .int .i64 0, .int .i64 0, .int .i64 0, .int .i64 0, .int .i64 0, .int .i64 0, .int .i64 0] 59]) := q15
  clear q15
  have q16 := S15.tlSet 2 rfl 16 (.int .i64 0)
  have S16 : Has w0 _ (cs ++ [blkC _ w.heap.size #[.slice la c.things.length lc, .int .i64 n] 50, blkC _ (w.heap.size + 1) (cfgCells c) 52, blkC _ (w.heap.size + 1 + 1) #[.int .i64 3, .int .i64 s, .int .i64 k, .int .u64 mk, .int .u64 hh, .int .u32 lk, .int .i64 v, .int .i64 tr, .int .i64 ii, .int .i64 nd, .int .i64 ce, .int .i64 e, .int .i64 0, .int .i64 0, .int .i64 0, .int .i64 0, .int .i64 0] 59, blkC _ (w.heap.size + 1 + 1 + 1) #[.int .i64 0, .int .i64 0, .int .i64 0, .int .u64 0, .int .u64 0, .int .u32 0, .int .i64 0, .int .i64 0, .int .i64 0, .int .i64 0, .int .i64 0, .int .i64 0, .int .i64 0, .int .i64 0, .int .i64 0, .int .i64 0, .int .i64 0] 59]) := q16
  clear q16
  go_upto_region 2 with (fail)
  obtain ⟨W1, HW1', e1⟩ := S16.name
  rw [← e1.out]
  have HW1 : Has w0 W1 (cs ++ [blkC _ w.heap.size #[.slice la c.things.length lc, .int .i64 n] 50, blkC _ (w.heap.size + 1) (cfgCells c) 52, blkC _ (w.heap.size + 1 + 1) #[.int .i64 3, .int .i64 s, .int .i64 k, .int .u64 mk, .int .u64 hh, .int .u32 lk, .int .i64 v, .int .i64 tr, .int .i64 ii, .int .i64 nd, .int .i64 ce, .int .i64 e, .int .i64 0, .int .i64 0, .int .i64 0, .int .i64 0, .int .i64 0] 59, blkC _ (w.heap.size + 1 + 1 + 1) #[.int .i64 0, .int .i64 0, .int .i64 0, .int .u64 0, .int .u64 0, .int .u32 0, .int .i64 0, .int .i64 0, .int .i64 0, .int .i64 0, .int .i64 0, .int .i64 0, .int .i64 0, .int .i64 0, .int .i64 0, .int .i64 0, .int .i64 0] 59]) := HW1'
  clear HW1' e1 S12 S13 S14 S15 S16 HW x0 x1 x2 x3 x4 x5 x6 x7 x8 x9 x10 x11 x12 x13 x14 x15 x16 xf
  have a0 := blk_at (HW1.tl 0 rfl) 0 (u := .slice la c.things.length lc) rfl
  have a1 := blk_at (HW1.tl 0 rfl) 1 (u := .int .i64 n) rfl
  obtain ⟨x0, x1, x2, x3, x4, x5, x6, x7, x8, x9, x10, x11, x12, x13, x14, x15, x16, xf⟩ := row17 (HW1.tl 2 rfl)
  go_wp2_with (refine wpl_getM (row17 (HW1.tl 2 rfl)) rfl (.tmp 7) rfl rfl ?_)
  refine (rtake3 HW1 i q n s k mk hh lk v tr ii nd ce e (hd_get HI.out _) (hd_get HQ.out _) h hl hw0 hw1 l0 l1).mono ?_
  rintro r w2 ⟨mv', rfl, G2⟩
  rw [hd_set HI.out] at G2
  go_wp2_with (refine wpl_putM G2 3 rfl rfl (.tmp 9) _ rfl rfl rfl (by simp [Value.oneCell']) ?_; intro w9 G9)
  have R := row17 (G9.tl 3 rfl)
  exact bodyPost_ret (resM2 R Try.results29 rfl rfl) rfl ⟨mv', rfl, (Has.untail _ _ G9)⟩
--]S3
--[S5
set_option maxRecDepth 100000 in
set_option maxHeartbeats 4000000 in
theorem rst5  :
    Calls Try.prog 29 #[.agg #[lv, .int .i64 n], cfgV c, mv, .agg #[.int .i64 5, .int .i64 s, .int .i64 k, .int .u64 mk, .int .u64 hh, .int .u32 lk, .int .i64 v, .int .i64 tr, .int .i64 ii, .int .i64 nd, .int .i64 ce, .int .i64 e, .int .i64 ek, .int .i64 0, .int .i64 ea, .int .i64 eb, .int .i64 0]] w fun r w' => ∃ mv', r = .returned (.tuple #[mv', .agg #[.int .i64 ((hpRest c v (wrap64 (ii + 1)) : Nat) : Int), .int .i64 s, .int .i64 k, .int .u64 mk, .int .u64 hh, .int .u32 lk, .int .i64 v, .int .i64 tr, .int .i64 (wrap64 (ii + 1)), .int .i64 nd, .int .i64 ce, .int .i64 e, .int .i64 0, .int .i64 0, .int .i64 0, .int .i64 0, .int .i64 0]]) ∧ Has w0 w' (cs.set i (slC _ .u64 mv' (mput l (c.slotAt v ii) 0))) := by
  obtain ⟨la, lc, rfl⟩ := own_is (H.get q hq)
  obtain ⟨ma, mc, rfl, -, -⟩ := H.sl i hi
  have HQ := Lib.hid hq
  have HI := Lib.hid hi
  clear hi hq
  unfold cfgV cfgCells
  go_enter Try.func29, Try.ntmps29
  have G0 := (((H.blkNew #[.slice la c.things.length lc, .int .i64 n] 50).blkNew (cfgCells c) 52).blkNew #[.int .i64 5, .int .i64 s, .int .i64 k, .int .u64 mk, .int .u64 hh, .int .u32 lk, .int .i64 v, .int .i64 tr, .int .i64 ii, .int .i64 nd, .int .i64 ce, .int .i64 e, .int .i64 ek, .int .i64 0, .int .i64 ea, .int .i64 eb, .int .i64 0] 59).blkNew #[.int .i64 0, .int .i64 0, .int .i64 0, .int .u64 0, .int .u64 0, .int .u32 0, .int .i64 0, .int .i64 0, .int .i64 0, .int .i64 0, .int .i64 0, .int .i64 0, .int .i64 0, .int .i64 0, .int .i64 0, .int .i64 0, .int .i64 0] 59
  have z1 : ∀ (w : World) o, (w.alloc o).heap.size = w.heap.size + 1 := fun w o => by simp
  simp only [z1] at G0
  rw [app4] at G0
  clear z1
  go_upto_region 1 with (fail)
  obtain ⟨W, HW, eW⟩ := G0.name
  have eW2 := eW.out
  simp only [cfgCells] at eW2
  rw [← eW2]
  clear G0 eW eW2
  obtain ⟨x0, x1, x2, x3, x4, x5, x6, x7, x8, x9, x10, x11, x12, x13, x14, x15, x16, xf⟩ := row17 (HW.tl 2 rfl)
  have q12 := HW.tlSet 2 rfl 12 (.int .i64 0)
  have S12 : Has w0 _ (cs ++ [blkC _ w.heap.size #[.slice la c.things.length lc, .int .i64 n] 50, blkC _ (w.heap.size + 1) (cfgCells c) 52, blkC _ (w.heap.size + 1 + 1) #[.int .i64 5, .int .i64 s, .int .i64 k, .int .u64 mk, .int .u64 hh, .int .u32 lk, .int .i64 v, .int .i64 tr, .int .i64 ii, .int .i64 nd, .int .i64 ce, .int .i64 e, .int .i64 0, .int .i64 0, .int .i64 ea, .int .i64 eb, .int .i64 0] 59, blkC _ (w.heap.size + 1 + 1 + 1) #[.int .i64 0, .int .i64 0, .int .i64 0, .int .u64 0, .int .u64 0, .int .u32 0, .int .i64 0, .int .i64 0, .int .i64 0, .int .i64 0, .int .i64 0, .int .i64 0, .int .i64 0, .int .i64 0, .int .i64 0, .int .i64 0, .int .i64 0] 59]) := q12
  clear q12
  have q13 := S12.tlSet 2 rfl 13 (.int .i64 0)
  have S13 : Has w0 _ (cs ++ [blkC _ w.heap.size #[.slice la c.things.length lc, .int .i64 n] 50, blkC _ (w.heap.size + 1) (cfgCells c) 52, blkC _ (w.heap.size + 1 + 1) #[.int .i64 5, .int .i64 s, .int .i64 k, .int .u64 mk, .int .u64 hh, .int .u32 lk, .int .i64 v, .int .i64 tr, .int .i64 ii, .int .i64 nd, .int .i64 ce, .int .i64 e, .int .i64 0, .int .i64 0, .int .i64 ea, .int .i64 eb, .int .i64 0] 59, blkC _ (w.heap.size + 1 + 1 + 1) #[.int .i64 0, .int .i64 0, .int .i64 0, .int .u64 0, .int .u64 0, .int .u32 0, .int .i64 0, .int .i64 0, .int .i64 0, .int .i64 0, .int .i64 0, .int .i64 0, .int .i64 0, .int .i64 0, .int .i64 0, .int .i64 0, .int .i64 0] 59]) := q13
  clear q13
  have q14 := S13.tlSet 2 rfl 14 (.int .i64 0)
  have S14 : Has w0 _ (cs ++ [blkC _ w.heap.size #[.slice la c.things.length lc, .int .i64 n] 50, blkC _ (w.heap.size + 1) (cfgCells c) 52, blkC _ (w.heap.size + 1 + 1) #[.int .i64 5, .int .i64 s, .int .i64 k, .int .u64 mk, .int .u64 hh, .int .u32 lk, .int .i64 v, .int .i64 tr, .int .i64 ii, .int .i64 nd, .int .i64 ce, .int .i64 e, .int .i64 0, .int .i64 0, .int .i64 0, .int .i64 eb, .int .i64 0] 59, blkC _ (w.heap.size + 1 + 1 + 1) #[.int .i64 0, .int .i64 0, .int .i64 0, .int .u64 0, .int .u64 0, .int .u32 0, .int .i64 0, .int .i64 0, .int .i64 0, .int .i64 0, .int .i64 0, .int .i64 0, .int .i64 0, .int .i64 0, .int .i64 0, .int .i64 0, .int .i64 0] 59]) := q14
  clear q14
  have q15 := S14.tlSet 2 rfl 15 (.int .i64 0)
  have S15 : Has w0 _ (cs ++ [blkC _ w.heap.size #[.slice la c.things.length lc, .int .i64 n] 50, blkC _ (w.heap.size + 1) (cfgCells c) 52, blkC _ (w.heap.size + 1 + 1) #[.int .i64 5, .int .i64 s, .int .i64 k, .int .u64 mk, .int .u64 hh, .int .u32 lk, .int .i64 v, .int .i64 tr, .int .i64 ii, .int .i64 nd, .int .i64 ce, .int .i64 e, .int .i64 0, .int .i64 0, .int .i64 0, .int .i64 0, .int .i64 0] 59, blkC _ (w.heap.size + 1 + 1 + 1) #[.int .i64 0, .int .i64 0, .int .i64 0, .int .u64 0, .int .u64 0, .int .u32 0, .int .i64 0, .int .i64 0, .int .i64 0, .int .i64 0, .int .i64 0, .int .i64 0, .int .i64 0, .int .i64 0, .int .i64 0, .int .i64 0, .int .i64 0] 59]) := q15
  clear q15
  have q16 := S15.tlSet 2 rfl 16 (.int .i64 0)
  have S16 : Has w0 _ (cs ++ [blkC _ w.heap.size #[.slice la c.things.length lc, .int .i64 n] 50, blkC _ (w.heap.size + 1) (cfgCells c) 52, blkC _ (w.heap.size + 1 + 1) #[.int .i64 5, .int .i64 s, .int .i64 k, .int .u64 mk, .int .u64 hh, .int .u32 lk, .int .i64 v, .int .i64 tr, .int .i64 ii, .int .i64 nd, .int .i64 ce, .int .i64 e, .int .i64 0, .int .i64 0, .int .i64 0, .int .i64 0, .int .i64 0] 59, blkC _ (w.heap.size + 1 + 1 + 1) #[.int .i64 0, .int .i64 0, .int .i64 0, .int .u64 0, .int .u64 0, .int .u32 0, .int .i64 0, .int .i64 0, .int .i64 0, .int .i64 0, .int .i64 0, .int .i64 0, .int .i64 0, .int .i64 0, .int .i64 0, .int .i64 0, .int .i64 0] 59]) := q16
  clear q16
  go_upto_region 2 with (fail)
  obtain ⟨W1, HW1', e1⟩ := S16.name
  rw [← e1.out]
  have HW1 : Has w0 W1 (cs ++ [blkC _ w.heap.size #[.slice la c.things.length lc, .int .i64 n] 50, blkC _ (w.heap.size + 1) (cfgCells c) 52, blkC _ (w.heap.size + 1 + 1) #[.int .i64 5, .int .i64 s, .int .i64 k, .int .u64 mk, .int .u64 hh, .int .u32 lk, .int .i64 v, .int .i64 tr, .int .i64 ii, .int .i64 nd, .int .i64 ce, .int .i64 e, .int .i64 0, .int .i64 0, .int .i64 0, .int .i64 0, .int .i64 0] 59, blkC _ (w.heap.size + 1 + 1 + 1) #[.int .i64 0, .int .i64 0, .int .i64 0, .int .u64 0, .int .u64 0, .int .u32 0, .int .i64 0, .int .i64 0, .int .i64 0, .int .i64 0, .int .i64 0, .int .i64 0, .int .i64 0, .int .i64 0, .int .i64 0, .int .i64 0, .int .i64 0] 59]) := HW1'
  clear HW1' e1 S12 S13 S14 S15 S16 HW x0 x1 x2 x3 x4 x5 x6 x7 x8 x9 x10 x11 x12 x13 x14 x15 x16 xf
  have a0 := blk_at (HW1.tl 0 rfl) 0 (u := .slice la c.things.length lc) rfl
  have a1 := blk_at (HW1.tl 0 rfl) 1 (u := .int .i64 n) rfl
  obtain ⟨x0, x1, x2, x3, x4, x5, x6, x7, x8, x9, x10, x11, x12, x13, x14, x15, x16, xf⟩ := row17 (HW1.tl 2 rfl)
  go_wp2_with fail
  refine (RAtK_h HW1 q n (hd_get HQ.out _) h 18 v ii (c.slotAt v ii) (by decide) (fun hn => absurd (.inr (.inr rfl)) hn) (atOf18 v ii)).mono ?_
  rintro r w2 ⟨rfl, G2⟩
  go_wp2_with fail
  refine (RPut_h G2 i (hd_get HI.out _) (c.slotAt v ii) 0 hl).mono ?_
  rintro r w3 ⟨mv', rfl, G3⟩
  rw [hd_set HI.out] at G3
  clear a0 a1 x0 x1 x2 x3 x4 x5 x6 x7 x8 x9 x10 x11 x12 x13 x14 x15 x16 xf G2
  have G3' : Has w0 w3 ((cs.set i (slC _ .u64 mv' (mput l (c.slotAt v ii) 0))) ++ [blkC _ w.heap.size #[.slice la c.things.length lc, .int .i64 n] 50, blkC _ (w.heap.size + 1) (cfgCells c) 52, blkC _ (w.heap.size + 1 + 1) #[.int .i64 5, .int .i64 s, .int .i64 k, .int .u64 mk, .int .u64 hh, .int .u32 lk, .int .i64 v, .int .i64 tr, .int .i64 ii, .int .i64 nd, .int .i64 ce, .int .i64 e, .int .i64 0, .int .i64 0, .int .i64 0, .int .i64 0, .int .i64 0] 59, blkC _ (w.heap.size + 1 + 1 + 1) #[.int .i64 0, .int .i64 0, .int .i64 0, .int .u64 0, .int .u64 0, .int .u32 0, .int .i64 0, .int .i64 0, .int .i64 0, .int .i64 0, .int .i64 0, .int .i64 0, .int .i64 0, .int .i64 0, .int .i64 0, .int .i64 0, .int .i64 0] 59]) := G3
  obtain ⟨x0, x1, x2, x3, x4, x5, x6, x7, x8, x9, x10, x11, x12, x13, x14, x15, x16, xf⟩ := row17 (G3'.tl 2 rfl)
  obtain ⟨b0, b1, b2, b3, b4, b5, b6, b7, b8, b9, b10, b11, bf⟩ := row12 (G3'.tl 1 rfl)
  have q4 := G3'.tlSet 2 rfl 8 (.int .i64 (wrap64 (ii + 1)))
  have G4 : Has w0 _ ((cs.set i (slC _ .u64 mv' (mput l (c.slotAt v ii) 0))) ++ [blkC _ w.heap.size #[.slice la c.things.length lc, .int .i64 n] 50, blkC _ (w.heap.size + 1) (cfgCells c) 52, blkC _ (w.heap.size + 1 + 1) #[.int .i64 5, .int .i64 s, .int .i64 k, .int .u64 mk, .int .u64 hh, .int .u32 lk, .int .i64 v, .int .i64 tr, .int .i64 (wrap64 (ii + 1)), .int .i64 nd, .int .i64 ce, .int .i64 e, .int .i64 0, .int .i64 0, .int .i64 0, .int .i64 0, .int .i64 0] 59, blkC _ (w.heap.size + 1 + 1 + 1) #[.int .i64 0, .int .i64 0, .int .i64 0, .int .u64 0, .int .u64 0, .int .u32 0, .int .i64 0, .int .i64 0, .int .i64 0, .int .i64 0, .int .i64 0, .int .i64 0, .int .i64 0, .int .i64 0, .int .i64 0, .int .i64 0, .int .i64 0] 59]) := q4
  clear q4 G3 G3'
  go_upto_region 12 with (fail)
  obtain ⟨W5, HW5', e5⟩ := G4.name
  rw [← e5.out]
  have HW5 : Has w0 W5 ((cs.set i (slC _ .u64 mv' (mput l (c.slotAt v ii) 0))) ++ [blkC _ w.heap.size #[.slice la c.things.length lc, .int .i64 n] 50, blkC _ (w.heap.size + 1) (cfgCells c) 52, blkC _ (w.heap.size + 1 + 1) #[.int .i64 5, .int .i64 s, .int .i64 k, .int .u64 mk, .int .u64 hh, .int .u32 lk, .int .i64 v, .int .i64 tr, .int .i64 (wrap64 (ii + 1)), .int .i64 nd, .int .i64 ce, .int .i64 e, .int .i64 0, .int .i64 0, .int .i64 0, .int .i64 0, .int .i64 0] 59, blkC _ (w.heap.size + 1 + 1 + 1) #[.int .i64 0, .int .i64 0, .int .i64 0, .int .u64 0, .int .u64 0, .int .u32 0, .int .i64 0, .int .i64 0, .int .i64 0, .int .i64 0, .int .i64 0, .int .i64 0, .int .i64 0, .int .i64 0, .int .i64 0, .int .i64 0, .int .i64 0] 59]) := HW5'
  clear HW5' e5 G4 x0 x1 x2 x3 x4 x5 x6 x7 x8 x9 x10 x11 x12 x13 x14 x15 x16 xf b0 b1 b2 b3 b4 b5 b6 b7 b8 b9 b10 b11 bf
  obtain ⟨b0, b1, b2, b3, b4, b5, b6, b7, b8, b9, b10, b11, bf⟩ := row12 (HW5.tl 1 rfl)
  go_wp2_with (refine wpl_getM (row17 (HW5.tl 2 rfl)) rfl (.tmp 7) rfl rfl ?_)
  refine (RRest19_h HW5 c h 5 s k mk hh lk v tr (wrap64 (ii + 1)) nd ce e 0 0 0).mono ?_
  rintro r w6 ⟨rfl, G6⟩
  go_wp2_with (refine wpl_putM G6 3 rfl rfl (.tmp 9) _ rfl rfl rfl (by simp [Value.oneCell']) ?_; intro w9 G9)
  have R := row17 (G9.tl 3 rfl)
  exact bodyPost_ret (resM2 R Try.results29 rfl rfl) rfl ⟨mv', rfl, (Has.untail _ _ G9)⟩
--]S5
--[S7
set_option maxRecDepth 100000 in
set_option maxHeartbeats 4000000 in
theorem rst7  :
    Calls Try.prog 29 #[.agg #[lv, .int .i64 n], cfgV c, mv, .agg #[.int .i64 7, .int .i64 s, .int .i64 k, .int .u64 mk, .int .u64 hh, .int .u32 lk, .int .i64 v, .int .i64 tr, .int .i64 ii, .int .i64 nd, .int .i64 ce, .int .i64 e, .int .i64 ek, .int .i64 0, .int .i64 ea, .int .i64 eb, .int .i64 0]] w fun r w' => ∃ mv', r = .returned (.tuple #[mv', .agg #[.int .i64 0, .int .i64 s, .int .i64 k, .int .u64 mk, .int .u64 hh, .int .u32 lk, .int .i64 v, .int .i64 tr, .int .i64 ii, .int .i64 v, .int .i64 0, .int .i64 e, .int .i64 8, .int .i64 0, .int .i64 v, .int .i64 s, .int .i64 0]]) ∧ Has w0 w' (cs.set i (slC _ .u64 mv' (mput l (c.nodeAt v 1) 1))) := by
  obtain ⟨la, lc, rfl⟩ := own_is (H.get q hq)
  obtain ⟨ma, mc, rfl, -, -⟩ := H.sl i hi
  have HQ := Lib.hid hq
  have HI := Lib.hid hi
  clear hi hq
  unfold cfgV cfgCells
  go_enter Try.func29, Try.ntmps29
  have G0 := (((H.blkNew #[.slice la c.things.length lc, .int .i64 n] 50).blkNew (cfgCells c) 52).blkNew #[.int .i64 7, .int .i64 s, .int .i64 k, .int .u64 mk, .int .u64 hh, .int .u32 lk, .int .i64 v, .int .i64 tr, .int .i64 ii, .int .i64 nd, .int .i64 ce, .int .i64 e, .int .i64 ek, .int .i64 0, .int .i64 ea, .int .i64 eb, .int .i64 0] 59).blkNew #[.int .i64 0, .int .i64 0, .int .i64 0, .int .u64 0, .int .u64 0, .int .u32 0, .int .i64 0, .int .i64 0, .int .i64 0, .int .i64 0, .int .i64 0, .int .i64 0, .int .i64 0, .int .i64 0, .int .i64 0, .int .i64 0, .int .i64 0] 59
  have z1 : ∀ (w : World) o, (w.alloc o).heap.size = w.heap.size + 1 := fun w o => by simp
  simp only [z1] at G0
  rw [app4] at G0
  clear z1
  go_upto_region 1 with (fail)
  obtain ⟨W, HW, eW⟩ := G0.name
  have eW2 := eW.out
  simp only [cfgCells] at eW2
  rw [← eW2]
  clear G0 eW eW2
  obtain ⟨x0, x1, x2, x3, x4, x5, x6, x7, x8, x9, x10, x11, x12, x13, x14, x15, x16, xf⟩ := row17 (HW.tl 2 rfl)
  have q12 := HW.tlSet 2 rfl 12 (.int .i64 0)
  have S12 : Has w0 _ (cs ++ [blkC _ w.heap.size #[.slice la c.things.length lc, .int .i64 n] 50, blkC _ (w.heap.size + 1) (cfgCells c) 52, blkC _ (w.heap.size + 1 + 1) #[.int .i64 7, .int .i64 s, .int .i64 k, .int .u64 mk, .int .u64 hh, .int .u32 lk, .int .i64 v, .int .i64 tr, .int .i64 ii, .int .i64 nd, .int .i64 ce, .int .i64 e, .int .i64 0, .int .i64 0, .int .i64 ea, .int .i64 eb, .int .i64 0] 59, blkC _ (w.heap.size + 1 + 1 + 1) #[.int .i64 0, .int .i64 0, .int .i64 0, .int .u64 0, .int .u64 0, .int .u32 0, .int .i64 0, .int .i64 0, .int .i64 0, .int .i64 0, .int .i64 0, .int .i64 0, .int .i64 0, .int .i64 0, .int .i64 0, .int .i64 0, .int .i64 0] 59]) := q12
  clear q12
  have q13 := S12.tlSet 2 rfl 13 (.int .i64 0)
  have S13 : Has w0 _ (cs ++ [blkC _ w.heap.size #[.slice la c.things.length lc, .int .i64 n] 50, blkC _ (w.heap.size + 1) (cfgCells c) 52, blkC _ (w.heap.size + 1 + 1) #[.int .i64 7, .int .i64 s, .int .i64 k, .int .u64 mk, .int .u64 hh, .int .u32 lk, .int .i64 v, .int .i64 tr, .int .i64 ii, .int .i64 nd, .int .i64 ce, .int .i64 e, .int .i64 0, .int .i64 0, .int .i64 ea, .int .i64 eb, .int .i64 0] 59, blkC _ (w.heap.size + 1 + 1 + 1) #[.int .i64 0, .int .i64 0, .int .i64 0, .int .u64 0, .int .u64 0, .int .u32 0, .int .i64 0, .int .i64 0, .int .i64 0, .int .i64 0, .int .i64 0, .int .i64 0, .int .i64 0, .int .i64 0, .int .i64 0, .int .i64 0, .int .i64 0] 59]) := q13
  clear q13
  have q14 := S13.tlSet 2 rfl 14 (.int .i64 0)
  have S14 : Has w0 _ (cs ++ [blkC _ w.heap.size #[.slice la c.things.length lc, .int .i64 n] 50, blkC _ (w.heap.size + 1) (cfgCells c) 52, blkC _ (w.heap.size + 1 + 1) #[.int .i64 7, .int .i64 s, .int .i64 k, .int .u64 mk, .int .u64 hh, .int .u32 lk, .int .i64 v, .int .i64 tr, .int .i64 ii, .int .i64 nd, .int .i64 ce, .int .i64 e, .int .i64 0, .int .i64 0, .int .i64 0, .int .i64 eb, .int .i64 0] 59, blkC _ (w.heap.size + 1 + 1 + 1) #[.int .i64 0, .int .i64 0, .int .i64 0, .int .u64 0, .int .u64 0, .int .u32 0, .int .i64 0, .int .i64 0, .int .i64 0, .int .i64 0, .int .i64 0, .int .i64 0, .int .i64 0, .int .i64 0, .int .i64 0, .int .i64 0, .int .i64 0] 59]) := q14
  clear q14
  have q15 := S14.tlSet 2 rfl 15 (.int .i64 0)
  have S15 : Has w0 _ (cs ++ [blkC _ w.heap.size #[.slice la c.things.length lc, .int .i64 n] 50, blkC _ (w.heap.size + 1) (cfgCells c) 52, blkC _ (w.heap.size + 1 + 1) #[.int .i64 7, .int .i64 s, .int .i64 k, .int .u64 mk, .int .u64 hh, .int .u32 lk, .int .i64 v, .int .i64 tr, .int .i64 ii, .int .i64 nd, .int .i64 ce, .int .i64 e, .int .i64 0, .int .i64 0, .int .i64 0, .int .i64 0, .int .i64 0] 59, blkC _ (w.heap.size + 1 + 1 + 1) #[.int .i64 0, .int .i64 0, .int .i64 0, .int .u64 0, .int .u64 0, .int .u32 0, .int .i64 0, .int .i64 0, .int .i64 0, .int .i64 0, .int .i64 0, .int .i64 0, .int .i64 0, .int .i64 0, .int .i64 0, .int .i64 0, .int .i64 0] 59]) := q15
  clear q15
  have q16 := S15.tlSet 2 rfl 16 (.int .i64 0)
  have S16 : Has w0 _ (cs ++ [blkC _ w.heap.size #[.slice la c.things.length lc, .int .i64 n] 50, blkC _ (w.heap.size + 1) (cfgCells c) 52, blkC _ (w.heap.size + 1 + 1) #[.int .i64 7, .int .i64 s, .int .i64 k, .int .u64 mk, .int .u64 hh, .int .u32 lk, .int .i64 v, .int .i64 tr, .int .i64 ii, .int .i64 nd, .int .i64 ce, .int .i64 e, .int .i64 0, .int .i64 0, .int .i64 0, .int .i64 0, .int .i64 0] 59, blkC _ (w.heap.size + 1 + 1 + 1) #[.int .i64 0, .int .i64 0, .int .i64 0, .int .u64 0, .int .u64 0, .int .u32 0, .int .i64 0, .int .i64 0, .int .i64 0, .int .i64 0, .int .i64 0, .int .i64 0, .int .i64 0, .int .i64 0, .int .i64 0, .int .i64 0, .int .i64 0] 59]) := q16
  clear q16
  go_upto_region 2 with (fail)
  obtain ⟨W1, HW1', e1⟩ := S16.name
  rw [← e1.out]
  have HW1 : Has w0 W1 (cs ++ [blkC _ w.heap.size #[.slice la c.things.length lc, .int .i64 n] 50, blkC _ (w.heap.size + 1) (cfgCells c) 52, blkC _ (w.heap.size + 1 + 1) #[.int .i64 7, .int .i64 s, .int .i64 k, .int .u64 mk, .int .u64 hh, .int .u32 lk, .int .i64 v, .int .i64 tr, .int .i64 ii, .int .i64 nd, .int .i64 ce, .int .i64 e, .int .i64 0, .int .i64 0, .int .i64 0, .int .i64 0, .int .i64 0] 59, blkC _ (w.heap.size + 1 + 1 + 1) #[.int .i64 0, .int .i64 0, .int .i64 0, .int .u64 0, .int .u64 0, .int .u32 0, .int .i64 0, .int .i64 0, .int .i64 0, .int .i64 0, .int .i64 0, .int .i64 0, .int .i64 0, .int .i64 0, .int .i64 0, .int .i64 0, .int .i64 0] 59]) := HW1'
  clear HW1' e1 S12 S13 S14 S15 S16 HW x0 x1 x2 x3 x4 x5 x6 x7 x8 x9 x10 x11 x12 x13 x14 x15 x16 xf
  have a0 := blk_at (HW1.tl 0 rfl) 0 (u := .slice la c.things.length lc) rfl
  have a1 := blk_at (HW1.tl 0 rfl) 1 (u := .int .i64 n) rfl
  obtain ⟨x0, x1, x2, x3, x4, x5, x6, x7, x8, x9, x10, x11, x12, x13, x14, x15, x16, xf⟩ := row17 (HW1.tl 2 rfl)
  go_wp2_with fail
  refine (RAtK_h HW1 q n (hd_get HQ.out _) h 15 v 0 (c.nodeAt v 1) (by decide) (fun _ => rfl) (atOfN 15 v 0 (by decide) (by decide))).mono ?_
  rintro r w2 ⟨rfl, G2⟩
  go_wp2_with fail
  refine (RPut_h G2 i (hd_get HI.out _) (c.nodeAt v 1) 1 hl).mono ?_
  rintro r w3 ⟨mv', rfl, G3⟩
  rw [hd_set HI.out] at G3
  clear a0 a1 x0 x1 x2 x3 x4 x5 x6 x7 x8 x9 x10 x11 x12 x13 x14 x15 x16 xf G2
  obtain ⟨na, nc, rfl, -, -⟩ := G3.sl i (hd_get (lset_same19 HI.out _) _)
  have G3' : Has w0 w3 ((cs.set i (slC _ .u64 (.slice na (mput l (c.nodeAt v 1) 1).length nc) (mput l (c.nodeAt v 1) 1))) ++ [blkC _ w.heap.size #[.slice la c.things.length lc, .int .i64 n] 50, blkC _ (w.heap.size + 1) (cfgCells c) 52, blkC _ (w.heap.size + 1 + 1) #[.int .i64 7, .int .i64 s, .int .i64 k, .int .u64 mk, .int .u64 hh, .int .u32 lk, .int .i64 v, .int .i64 tr, .int .i64 ii, .int .i64 nd, .int .i64 ce, .int .i64 e, .int .i64 0, .int .i64 0, .int .i64 0, .int .i64 0, .int .i64 0] 59, blkC _ (w.heap.size + 1 + 1 + 1) #[.int .i64 0, .int .i64 0, .int .i64 0, .int .u64 0, .int .u64 0, .int .u32 0, .int .i64 0, .int .i64 0, .int .i64 0, .int .i64 0, .int .i64 0, .int .i64 0, .int .i64 0, .int .i64 0, .int .i64 0, .int .i64 0, .int .i64 0] 59]) := G3
  obtain ⟨x0, x1, x2, x3, x4, x5, x6, x7, x8, x9, x10, x11, x12, x13, x14, x15, x16, xf⟩ := row17 (G3'.tl 2 rfl)
  have q0 := G3'.tlSet 2 rfl 9 (.int .i64 v)
  have S0 : Has w0 _ ((cs.set i (slC _ .u64 (.slice na (mput l (c.nodeAt v 1) 1).length nc) (mput l (c.nodeAt v 1) 1))) ++ [blkC _ w.heap.size #[.slice la c.things.length lc, .int .i64 n] 50, blkC _ (w.heap.size + 1) (cfgCells c) 52, blkC _ (w.heap.size + 1 + 1) #[.int .i64 7, .int .i64 s, .int .i64 k, .int .u64 mk, .int .u64 hh, .int .u32 lk, .int .i64 v, .int .i64 tr, .int .i64 ii, .int .i64 v, .int .i64 ce, .int .i64 e, .int .i64 0, .int .i64 0, .int .i64 0, .int .i64 0, .int .i64 0] 59, blkC _ (w.heap.size + 1 + 1 + 1) #[.int .i64 0, .int .i64 0, .int .i64 0, .int .u64 0, .int .u64 0, .int .u32 0, .int .i64 0, .int .i64 0, .int .i64 0, .int .i64 0, .int .i64 0, .int .i64 0, .int .i64 0, .int .i64 0, .int .i64 0, .int .i64 0, .int .i64 0] 59]) := q0
  clear q0
  have q1 := S0.tlSet 2 rfl 10 (.int .i64 0)
  have S1 : Has w0 _ ((cs.set i (slC _ .u64 (.slice na (mput l (c.nodeAt v 1) 1).length nc) (mput l (c.nodeAt v 1) 1))) ++ [blkC _ w.heap.size #[.slice la c.things.length lc, .int .i64 n] 50, blkC _ (w.heap.size + 1) (cfgCells c) 52, blkC _ (w.heap.size + 1 + 1) #[.int .i64 7, .int .i64 s, .int .i64 k, .int .u64 mk, .int .u64 hh, .int .u32 lk, .int .i64 v, .int .i64 tr, .int .i64 ii, .int .i64 v, .int .i64 0, .int .i64 e, .int .i64 0, .int .i64 0, .int .i64 0, .int .i64 0, .int .i64 0] 59, blkC _ (w.heap.size + 1 + 1 + 1) #[.int .i64 0, .int .i64 0, .int .i64 0, .int .u64 0, .int .u64 0, .int .u32 0, .int .i64 0, .int .i64 0, .int .i64 0, .int .i64 0, .int .i64 0, .int .i64 0, .int .i64 0, .int .i64 0, .int .i64 0, .int .i64 0, .int .i64 0] 59]) := q1
  clear q1
  have q2 := S1.tlSet 2 rfl 12 (.int .i64 8)
  have S2 : Has w0 _ ((cs.set i (slC _ .u64 (.slice na (mput l (c.nodeAt v 1) 1).length nc) (mput l (c.nodeAt v 1) 1))) ++ [blkC _ w.heap.size #[.slice la c.things.length lc, .int .i64 n] 50, blkC _ (w.heap.size + 1) (cfgCells c) 52, blkC _ (w.heap.size + 1 + 1) #[.int .i64 7, .int .i64 s, .int .i64 k, .int .u64 mk, .int .u64 hh, .int .u32 lk, .int .i64 v, .int .i64 tr, .int .i64 ii, .int .i64 v, .int .i64 0, .int .i64 e, .int .i64 8, .int .i64 0, .int .i64 0, .int .i64 0, .int .i64 0] 59, blkC _ (w.heap.size + 1 + 1 + 1) #[.int .i64 0, .int .i64 0, .int .i64 0, .int .u64 0, .int .u64 0, .int .u32 0, .int .i64 0, .int .i64 0, .int .i64 0, .int .i64 0, .int .i64 0, .int .i64 0, .int .i64 0, .int .i64 0, .int .i64 0, .int .i64 0, .int .i64 0] 59]) := q2
  clear q2
  have q3 := S2.tlSet 2 rfl 13 (.int .i64 0)
  have S3 : Has w0 _ ((cs.set i (slC _ .u64 (.slice na (mput l (c.nodeAt v 1) 1).length nc) (mput l (c.nodeAt v 1) 1))) ++ [blkC _ w.heap.size #[.slice la c.things.length lc, .int .i64 n] 50, blkC _ (w.heap.size + 1) (cfgCells c) 52, blkC _ (w.heap.size + 1 + 1) #[.int .i64 7, .int .i64 s, .int .i64 k, .int .u64 mk, .int .u64 hh, .int .u32 lk, .int .i64 v, .int .i64 tr, .int .i64 ii, .int .i64 v, .int .i64 0, .int .i64 e, .int .i64 8, .int .i64 0, .int .i64 0, .int .i64 0, .int .i64 0] 59, blkC _ (w.heap.size + 1 + 1 + 1) #[.int .i64 0, .int .i64 0, .int .i64 0, .int .u64 0, .int .u64 0, .int .u32 0, .int .i64 0, .int .i64 0, .int .i64 0, .int .i64 0, .int .i64 0, .int .i64 0, .int .i64 0, .int .i64 0, .int .i64 0, .int .i64 0, .int .i64 0] 59]) := q3
  clear q3
  have q4 := S3.tlSet 2 rfl 14 (.int .i64 v)
  have S4 : Has w0 _ ((cs.set i (slC _ .u64 (.slice na (mput l (c.nodeAt v 1) 1).length nc) (mput l (c.nodeAt v 1) 1))) ++ [blkC _ w.heap.size #[.slice la c.things.length lc, .int .i64 n] 50, blkC _ (w.heap.size + 1) (cfgCells c) 52, blkC _ (w.heap.size + 1 + 1) #[.int .i64 7, .int .i64 s, .int .i64 k, .int .u64 mk, .int .u64 hh, .int .u32 lk, .int .i64 v, .int .i64 tr, .int .i64 ii, .int .i64 v, .int .i64 0, .int .i64 e, .int .i64 8, .int .i64 0, .int .i64 v, .int .i64 0, .int .i64 0] 59, blkC _ (w.heap.size + 1 + 1 + 1) #[.int .i64 0, .int .i64 0, .int .i64 0, .int .u64 0, .int .u64 0, .int .u32 0, .int .i64 0, .int .i64 0, .int .i64 0, .int .i64 0, .int .i64 0, .int .i64 0, .int .i64 0, .int .i64 0, .int .i64 0, .int .i64 0, .int .i64 0] 59]) := q4
  clear q4
  have q5 := S4.tlSet 2 rfl 15 (.int .i64 s)
  have S5 : Has w0 _ ((cs.set i (slC _ .u64 (.slice na (mput l (c.nodeAt v 1) 1).length nc) (mput l (c.nodeAt v 1) 1))) ++ [blkC _ w.heap.size #[.slice la c.things.length lc, .int .i64 n] 50, blkC _ (w.heap.size + 1) (cfgCells c) 52, blkC _ (w.heap.size + 1 + 1) #[.int .i64 7, .int .i64 s, .int .i64 k, .int .u64 mk, .int .u64 hh, .int .u32 lk, .int .i64 v, .int .i64 tr, .int .i64 ii, .int .i64 v, .int .i64 0, .int .i64 e, .int .i64 8, .int .i64 0, .int .i64 v, .int .i64 s, .int .i64 0] 59, blkC _ (w.heap.size + 1 + 1 + 1) #[.int .i64 0, .int .i64 0, .int .i64 0, .int .u64 0, .int .u64 0, .int .u32 0, .int .i64 0, .int .i64 0, .int .i64 0, .int .i64 0, .int .i64 0, .int .i64 0, .int .i64 0, .int .i64 0, .int .i64 0, .int .i64 0, .int .i64 0] 59]) := q5
  clear q5
  have q6 := S5.tlSet 2 rfl 16 (.int .i64 0)
  have S6 : Has w0 _ ((cs.set i (slC _ .u64 (.slice na (mput l (c.nodeAt v 1) 1).length nc) (mput l (c.nodeAt v 1) 1))) ++ [blkC _ w.heap.size #[.slice la c.things.length lc, .int .i64 n] 50, blkC _ (w.heap.size + 1) (cfgCells c) 52, blkC _ (w.heap.size + 1 + 1) #[.int .i64 7, .int .i64 s, .int .i64 k, .int .u64 mk, .int .u64 hh, .int .u32 lk, .int .i64 v, .int .i64 tr, .int .i64 ii, .int .i64 v, .int .i64 0, .int .i64 e, .int .i64 8, .int .i64 0, .int .i64 v, .int .i64 s, .int .i64 0] 59, blkC _ (w.heap.size + 1 + 1 + 1) #[.int .i64 0, .int .i64 0, .int .i64 0, .int .u64 0, .int .u64 0, .int .u32 0, .int .i64 0, .int .i64 0, .int .i64 0, .int .i64 0, .int .i64 0, .int .i64 0, .int .i64 0, .int .i64 0, .int .i64 0, .int .i64 0, .int .i64 0] 59]) := q6
  clear q6
  have q7 := S6.tlSet 2 rfl 0 (.int .i64 0)
  have S7 : Has w0 _ ((cs.set i (slC _ .u64 (.slice na (mput l (c.nodeAt v 1) 1).length nc) (mput l (c.nodeAt v 1) 1))) ++ [blkC _ w.heap.size #[.slice la c.things.length lc, .int .i64 n] 50, blkC _ (w.heap.size + 1) (cfgCells c) 52, blkC _ (w.heap.size + 1 + 1) #[.int .i64 0, .int .i64 s, .int .i64 k, .int .u64 mk, .int .u64 hh, .int .u32 lk, .int .i64 v, .int .i64 tr, .int .i64 ii, .int .i64 v, .int .i64 0, .int .i64 e, .int .i64 8, .int .i64 0, .int .i64 v, .int .i64 s, .int .i64 0] 59, blkC _ (w.heap.size + 1 + 1 + 1) #[.int .i64 0, .int .i64 0, .int .i64 0, .int .u64 0, .int .u64 0, .int .u32 0, .int .i64 0, .int .i64 0, .int .i64 0, .int .i64 0, .int .i64 0, .int .i64 0, .int .i64 0, .int .i64 0, .int .i64 0, .int .i64 0, .int .i64 0] 59]) := q7
  clear q7
  clear G3 G3'
  go_upto_region 22 with (fail)
  obtain ⟨W5, HW5', e5⟩ := S7.name
  rw [← e5.out]
  have HW5 : Has w0 W5 ((cs.set i (slC _ .u64 (.slice na (mput l (c.nodeAt v 1) 1).length nc) (mput l (c.nodeAt v 1) 1))) ++ [blkC _ w.heap.size #[.slice la c.things.length lc, .int .i64 n] 50, blkC _ (w.heap.size + 1) (cfgCells c) 52, blkC _ (w.heap.size + 1 + 1) #[.int .i64 0, .int .i64 s, .int .i64 k, .int .u64 mk, .int .u64 hh, .int .u32 lk, .int .i64 v, .int .i64 tr, .int .i64 ii, .int .i64 v, .int .i64 0, .int .i64 e, .int .i64 8, .int .i64 0, .int .i64 v, .int .i64 s, .int .i64 0] 59, blkC _ (w.heap.size + 1 + 1 + 1) #[.int .i64 0, .int .i64 0, .int .i64 0, .int .u64 0, .int .u64 0, .int .u32 0, .int .i64 0, .int .i64 0, .int .i64 0, .int .i64 0, .int .i64 0, .int .i64 0, .int .i64 0, .int .i64 0, .int .i64 0, .int .i64 0, .int .i64 0] 59]) := HW5'
  clear HW5' e5
  refine wp_region_still_tail 3 (by kernel_rfl) (by kernel_rfl) ?_
  simp only [List.take_succ_cons, List.take_zero, List.drop_succ_cons, List.drop_zero]
  change wpStill _ _ W5.drew _ _ _
  still_step
  refine still_getM (row17 (HW5.drew.tl 2 rfl)) rfl (.tmp 7) rfl rfl ?_
  still_step
  refine wpStill_nil ?_
  change wpList _ _ _ _ _ W5.drew
  go_wp2_with (refine wpl_putM HW5.drew 3 rfl rfl (.tmp 9) _ rfl rfl rfl (by simp [Value.oneCell']) ?_; intro w9 G9)
  have R := row17 (G9.tl 3 rfl)
  exact bodyPost_ret (resM2 R Try.results29 rfl rfl) rfl ⟨.slice na (mput l (c.nodeAt v 1) 1).length nc, rfl, (Has.untail _ _ G9)⟩
--]S7
end
end Go.Proofs.Ytmiaghbakdapbaa
