/- The reference's machine of layer 19: Step at 6. Conditions: the configuration may be; words are words. -/
import Derived.Test.YtmiaghbakdapbaaRef19c
set_option linter.unusedVariables false
set_option linter.unusedSimpArgs false
set_option linter.unusedSectionVars false
namespace Go.Proofs.Ytmiaghbakdapbaa
open Go.ChangeShapes Go.WideShapes Go.ChangeAt Go.RowKit

section
variable {w0 w : World} {cs : List (Chunk w0.heap.size)} (H : Has w0 w cs) (i q : Nat) {mv lv : Value} {l : List Int} {c : Cfg} (n s k mk hh lk v tr ii nd ce e ek ea eb : Int) (hi : cs[i]? = some (slC _ .u64 mv l)) (hq : cs[q]? = some (ownT _ lv c.things)) (h : CfgOk c) (hl : l.length < 1000000000000)
include H hi hq h hl
--[S6
set_option maxRecDepth 100000 in
set_option maxHeartbeats 4000000 in
theorem rst6  :
    Calls Try.prog 29 #[.agg #[lv, .int .i64 n], cfgV c, mv, .agg #[.int .i64 6, .int .i64 s, .int .i64 k, .int .u64 mk, .int .u64 hh, .int .u32 lk, .int .i64 v, .int .i64 tr, .int .i64 ii, .int .i64 nd, .int .i64 ce, .int .i64 e, .int .i64 ek, .int .i64 0, .int .i64 ea, .int .i64 eb, .int .i64 0]] w fun r w' => ∃ mv', r = .returned (.tuple #[mv', .agg #[.int .i64 7, .int .i64 s, .int .i64 k, .int .u64 mk, .int .u64 hh, .int .u32 lk, .int .i64 v, .int .i64 tr, .int .i64 ii, .int .i64 nd, .int .i64 ce, .int .i64 e, .int .i64 0, .int .i64 0, .int .i64 0, .int .i64 0, .int .i64 0]]) ∧ Has w0 w' (cs.set i (slC _ .u64 mv' (mput l (c.nodeAt v 2) mk))) := by
  obtain ⟨la, lc, rfl⟩ := own_is (H.get q hq)
  obtain ⟨ma, mc, rfl, -, -⟩ := H.sl i hi
  have HQ := Lib.hid hq
  have HI := Lib.hid hi
  clear hi hq
  unfold cfgV cfgCells
  go_enter Try.func29, Try.ntmps29
  have G0 := (((H.blkNew #[.slice la c.things.length lc, .int .i64 n] 50).blkNew (cfgCells c) 52).blkNew #[.int .i64 6, .int .i64 s, .int .i64 k, .int .u64 mk, .int .u64 hh, .int .u32 lk, .int .i64 v, .int .i64 tr, .int .i64 ii, .int .i64 nd, .int .i64 ce, .int .i64 e, .int .i64 ek, .int .i64 0, .int .i64 ea, .int .i64 eb, .int .i64 0] 59).blkNew #[.int .i64 0, .int .i64 0, .int .i64 0, .int .u64 0, .int .u64 0, .int .u32 0, .int .i64 0, .int .i64 0, .int .i64 0, .int .i64 0, .int .i64 0, .int .i64 0, .int .i64 0, .int .i64 0, .int .i64 0, .int .i64 0, .int .i64 0] 59
  have z1 : ∀ (w : World) o, (w.alloc o).heap.size = w.heap.size + 1 := fun w o => by simp
  simp only [z1] at G0
  rw [app4] at G0
  clear z1
  go_upto_region 1 with (fail)
  obtain ⟨W, HW, eW⟩ := G0.name
  have eW2 := eW.out
  simp only [cfgCells] at eW2
  rw [← eW2]
  clear G0 eW eW2
  obtain ⟨x0, x1, x2, x3, x4, x5, x6, x7, x8, x9, x10, x11, x12, x13, x14, x15, x16, xf⟩ := row17 (HW.tl 2 rfl)
  have q12 := HW.tlSet 2 rfl 12 (.int .i64 0)
  have S12 : Has w0 _ (cs ++ [blkC _ w.heap.size #[.slice la c.things.length lc, .int .i64 n] 50, blkC _ (w.heap.size + 1) (cfgCells c) 52, blkC _ (w.heap.size + 1 + 1) #[.int .i64 6, .int .i64 s, .int .i64 k, .int .u64 mk, .int .u64 hh, .int .u32 lk, .int .i64 v, .int .i64 tr, .int .i64 ii, .int .i64 nd, .int .i64 ce, .int .i64 e, .int .i64 0, .int .i64 0, .int .i64 ea, .int .i64 eb, .int .i64 0] 59, blkC _ (w.heap.size + 1 + 1 + 1) #[.int .i64 0, .int .i64 0, .int .i64 0, .int .u64 0, .int .u64 0, .int .u32 0, .int .i64 0, .int .i64 0, .int .i64 0, .int .i64 0, .int .i64 0, .int .i64 0, .int .i64 0, .int .i64 0, .int .i64 0, .int .i64 0, .int .i64 0] 59]) := q12
  clear q12
  have q13 := S12.tlSet 2 rfl 13 (.int .i64 0)
  have S13 : Has w0 _ (cs ++ [blkC _ w.heap.size #[.slice la c.things.length lc, .int .i64 n] 50, blkC _ (w.heap.size + 1) (cfgCells c) 52, blkC _ (w.heap.size + 1 + 1) #[.int .i64 6, .int .i64 s, .int .i64 k, .int .u64 mk, .int .u64 hh, .int .u32 lk, .int .i64 v, .int .i64 tr, .int .i64 ii, .int .i64 nd, .int .i64 ce, .int .i64 e, .int .i64 0, .int .i64 0, .int .i64 ea, .int .i64 eb, .int .i64 0] 59, blkC _ (w.heap.size + 1 + 1 + 1) #[.int .i64 0, .int .i64 0, .int .i64 0, .int .u64 0, .int .u64 0, .int .u32 0, .int .i64 0, .int .i64 0, .int .i64 0, .int .i64 0, .int .i64 0, .int .i64 0, .int .i64 0, .int .i64 0, .int .i64 0, .int .i64 0, .int .i64 0] 59]) := q13
  clear q13
  have q14 := S13.tlSet 2 rfl 14 (.int .i64 0)
  have S14 : Has w0 _ (cs ++ [blkC _ w.heap.size #[.slice la c.things.length lc, .int .i64 n] 50, blkC _ (w.heap.size + 1) (cfgCells c) 52, blkC _ (w.heap.size + 1 + 1) #[.int .i64 6, .int .i64 s, .int .i64 k, .int .u64 mk, .int .u64 hh, .int .u32 lk, .int .i64 v, .int .i64 tr, .int .i64 ii, .int .i64 nd, .int .i64 ce, .int .i64 e, .int .i64 0, .int .i64 0, .int .i64 0, .int .i64 eb, .int .i64 0] 59, blkC _ (w.heap.size + 1 + 1 + 1) #[.int .i64 0, .int .i64 0, .int .i64 0, .int .u64 0, .int .u64 0, .int .u32 0, .int .i64 0, .int .i64 0, .int .i64 0, .int .i64 0, .int .i64 0, .int .i64 0, .int .i64 0, .int .i64 0, .int .i64 0, .int .i64 0, .int .i64 0] 59]) := q14
  clear q14
  have q15 := S14.tlSet 2 rfl 15 (.int .i64 0)
  have S15 : Has w0 _ (cs ++ [blkC _ w.heap.size #[.slice la c.things.length lc, .int .i64 n] 50, blkC _ (w.heap.size + 1) (cfgCells c) 52, blkC _ (w.heap.size + 1 + 1) #[.int .i64 6, .int .i64 s, .int .i64 k, .int .u64 mk, .int .u64 hh, .int .u32 lk, .int .i64 v, .int .i64 tr, .int .i64 ii, .int .i64 nd, .int .i64 ce, .int .i64 e, .int .i64 0, .int .i64 0, .int .i64 0, .int .i64 0, .int .i64 0] 59, blkC _ (w.heap.size + 1 + 1 + 1) #[.int .i64 0, .int .i64 0, .int .i64 0, .int .u64 0, .int .u64 0, .int .u32 0, .int .i64 0, .int .i64 0, .int .i64 0, .int .i64 0, .int .i64 0, .int .i64 0, .int .i64 0, .int .i64 0, .int .i64 0, .int .i64 0, .int .i64 0] 59]) := q15
  clear q15
  have q16 := S15.tlSet 2 rfl 16 (.int .i64 0)
  have S16 : Has w0 _ (cs ++ [blkC _ w.heap.size #[.slice la c.things.length lc, .int .i64 n] 50, blkC _ (w.heap.size + 1) (cfgCells c) 52, blkC _ (w.heap.size + 1 + 1) #[.int .i64 6, .int .i64 s, .int .i64 k, .int .u64 mk, .int .u64 hh, .int .u32 lk, .int .i64 v, .int .i64 tr, .int .i64 ii, .int .i64 nd, .int .i64 ce, .int .i64 e, .int .i64 0, .int .i64 0, .int .i64 0, .int .i64 0, .int .i64 0] 59, blkC _ (w.heap.size + 1 + 1 + 1) #[.int .i64 0, .int .i64 0, .int .i64 0, .int .u64 0, .int .u64 0, .int .u32 0, .int .i64 0, .int .i64 0, .int .i64 0, .int .i64 0, .int .i64 0, .int .i64 0, .int .i64 0, .int .i64 0, .int .i64 0, .int .i64 0, .int .i64 0] 59]) := q16
  clear q16
  go_upto_region 2 with (fail)
  obtain ⟨W1, HW1', e1⟩ := S16.name
  rw [← e1.out]
  have HW1 : Has w0 W1 (cs ++ [blkC _ w.heap.size #[.slice la c.things.length lc, .int .i64 n] 50, blkC _ (w.heap.size + 1) (cfgCells c) 52, blkC _ (w.heap.size + 1 + 1) #[.int .i64 6, .int .i64 s, .int .i64 k, .int .u64 mk, .int .u64 hh, .int .u32 lk, .int .i64 v, .int .i64 tr, .int .i64 ii, .int .i64 nd, .int .i64 ce, .int .i64 e, .int .i64 0, .int .i64 0, .int .i64 0, .int .i64 0, .int .i64 0] 59, blkC _ (w.heap.size + 1 + 1 + 1) #[.int .i64 0, .int .i64 0, .int .i64 0, .int .u64 0, .int .u64 0, .int .u32 0, .int .i64 0, .int .i64 0, .int .i64 0, .int .i64 0, .int .i64 0, .int .i64 0, .int .i64 0, .int .i64 0, .int .i64 0, .int .i64 0, .int .i64 0] 59]) := HW1'
  clear HW1' e1 S12 S13 S14 S15 S16 HW x0 x1 x2 x3 x4 x5 x6 x7 x8 x9 x10 x11 x12 x13 x14 x15 x16 xf
  have a0 := blk_at (HW1.tl 0 rfl) 0 (u := .slice la c.things.length lc) rfl
  have a1 := blk_at (HW1.tl 0 rfl) 1 (u := .int .i64 n) rfl
  obtain ⟨x0, x1, x2, x3, x4, x5, x6, x7, x8, x9, x10, x11, x12, x13, x14, x15, x16, xf⟩ := row17 (HW1.tl 2 rfl)
  have q2 := HW1.tlSet 2 rfl 0 (.int .i64 7)
  have G2 : Has w0 _ (cs ++ [blkC _ w.heap.size #[.slice la c.things.length lc, .int .i64 n] 50, blkC _ (w.heap.size + 1) (cfgCells c) 52, blkC _ (w.heap.size + 1 + 1) #[.int .i64 7, .int .i64 s, .int .i64 k, .int .u64 mk, .int .u64 hh, .int .u32 lk, .int .i64 v, .int .i64 tr, .int .i64 ii, .int .i64 nd, .int .i64 ce, .int .i64 e, .int .i64 0, .int .i64 0, .int .i64 0, .int .i64 0, .int .i64 0] 59, blkC _ (w.heap.size + 1 + 1 + 1) #[.int .i64 0, .int .i64 0, .int .i64 0, .int .u64 0, .int .u64 0, .int .u32 0, .int .i64 0, .int .i64 0, .int .i64 0, .int .i64 0, .int .i64 0, .int .i64 0, .int .i64 0, .int .i64 0, .int .i64 0, .int .i64 0, .int .i64 0] 59]) := q2
  clear q2
  go_upto_region 15 with (fail)
  obtain ⟨W2, HW2', e2⟩ := G2.name
  rw [← e2.out]
  have HW2 : Has w0 W2 (cs ++ [blkC _ w.heap.size #[.slice la c.things.length lc, .int .i64 n] 50, blkC _ (w.heap.size + 1) (cfgCells c) 52, blkC _ (w.heap.size + 1 + 1) #[.int .i64 7, .int .i64 s, .int .i64 k, .int .u64 mk, .int .u64 hh, .int .u32 lk, .int .i64 v, .int .i64 tr, .int .i64 ii, .int .i64 nd, .int .i64 ce, .int .i64 e, .int .i64 0, .int .i64 0, .int .i64 0, .int .i64 0, .int .i64 0] 59, blkC _ (w.heap.size + 1 + 1 + 1) #[.int .i64 0, .int .i64 0, .int .i64 0, .int .u64 0, .int .u64 0, .int .u32 0, .int .i64 0, .int .i64 0, .int .i64 0, .int .i64 0, .int .i64 0, .int .i64 0, .int .i64 0, .int .i64 0, .int .i64 0, .int .i64 0, .int .i64 0] 59]) := HW2'
  clear HW2' e2 G2 HW1 a0 a1 x0 x1 x2 x3 x4 x5 x6 x7 x8 x9 x10 x11 x12 x13 x14 x15 x16 xf
  have a0 := blk_at (HW2.tl 0 rfl) 0 (u := .slice la c.things.length lc) rfl
  have a1 := blk_at (HW2.tl 0 rfl) 1 (u := .int .i64 n) rfl
  obtain ⟨x0, x1, x2, x3, x4, x5, x6, x7, x8, x9, x10, x11, x12, x13, x14, x15, x16, xf⟩ := row17 (HW2.tl 2 rfl)
  go_region_held3 (fun w' => w'.cell? ⟨w.heap.size, 0, none⟩ = some (.slice la c.things.length lc) ∧ w'.cell? ⟨w.heap.size, 1, none⟩ = some (.int .i64 n) ∧ w'.cell? ⟨w.heap.size + 1 + 1, 0, none⟩ = some (.int .i64 7) ∧ w'.cell? ⟨w.heap.size + 1 + 1, 1, none⟩ = some (.int .i64 s) ∧ w'.cell? ⟨w.heap.size + 1 + 1, 2, none⟩ = some (.int .i64 k) ∧ w'.cell? ⟨w.heap.size + 1 + 1, 3, none⟩ = some (.int .u64 mk) ∧ w'.cell? ⟨w.heap.size + 1 + 1, 4, none⟩ = some (.int .u64 hh) ∧ w'.cell? ⟨w.heap.size + 1 + 1, 5, none⟩ = some (.int .u32 lk) ∧ w'.cell? ⟨w.heap.size + 1 + 1, 6, none⟩ = some (.int .i64 v) ∧ w'.cell? ⟨w.heap.size + 1 + 1, 7, none⟩ = some (.int .i64 tr) ∧ w'.cell? ⟨w.heap.size + 1 + 1, 8, none⟩ = some (.int .i64 ii) ∧ w'.cell? ⟨w.heap.size + 1 + 1, 9, none⟩ = some (.int .i64 nd) ∧ w'.cell? ⟨w.heap.size + 1 + 1, 10, none⟩ = some (.int .i64 ce) ∧ w'.cell? ⟨w.heap.size + 1 + 1, 11, none⟩ = some (.int .i64 e) ∧ w'.cell? ⟨w.heap.size + 1 + 1, 12, none⟩ = some (.int .i64 0) ∧ w'.cell? ⟨w.heap.size + 1 + 1, 13, none⟩ = some (.int .i64 0) ∧ w'.cell? ⟨w.heap.size + 1 + 1, 14, none⟩ = some (.int .i64 0) ∧ w'.cell? ⟨w.heap.size + 1 + 1, 15, none⟩ = some (.int .i64 0) ∧ w'.cell? ⟨w.heap.size + 1 + 1, 16, none⟩ = some (.int .i64 0)) (refine ⟨?_, ?_, ?_, ?_, ?_, ?_, ?_, ?_, ?_, ?_, ?_, ?_, ?_, ?_, ?_, ?_, ?_, ?_, ?_⟩ <;> (first | (with_reducible assumption) | (simp only [cell_drewN1, cell_drew1]; with_reducible assumption) | (refine (far17 _ _ _ _ _ _ _ _ _ _ _ _ _ _ _ _ _ _ _ _ _ (by omega)).trans ?_; with_reducible assumption))) (first | (go_at_call 65; refine (RAtK_h (HW2.drewN _) q n (hd_get HQ.out _) h 16 v 0 (c.nodeAt v 2) (by decide) (fun _ => rfl) (atOfN 16 v 0 (by decide) (by decide))).mono ?_; rintro r w3 ⟨rfl, G3⟩; have b0 := blk_at (G3.tl 0 rfl) 0 (u := .slice la c.things.length lc) rfl; have b1 := blk_at (G3.tl 0 rfl) 1 (u := .int .i64 n) rfl; obtain ⟨y0, y1, y2, y3, y4, y5, y6, y7, y8, y9, y10, y11, y12, y13, y14, y15, y16, yf⟩ := row17 (G3.tl 2 rfl)) | (go_at_call 27; refine (RPut_h G3 i (hd_get HI.out _) (c.nodeAt v 2) mk hl).mono ?_; rintro r w4 ⟨mv', rfl, G4⟩; rw [hd_set HI.out] at G4; have d0 := blk_at (G4.tl 0 rfl) 0 (u := .slice la c.things.length lc) rfl; have d1 := blk_at (G4.tl 0 rfl) 1 (u := .int .i64 n) rfl; obtain ⟨z0, z1, z2, z3, z4, z5, z6, z7, z8, z9, z10, z11, z12, z13, z14, z15, z16, zf⟩ := row17 (G4.tl 2 rfl); obtain ⟨u0, u1, u2, u3, u4, u5, u6, u7, u8, u9, u10, u11, u12, u13, u14, u15, u16, uf⟩ := row17 (G4.tl 3 rfl)))
  have G9 := G4.tlAll 3 rfl (.int .i64 7) (.int .i64 s) (.int .i64 k) (.int .u64 mk) (.int .u64 hh) (.int .u32 lk) (.int .i64 v) (.int .i64 tr) (.int .i64 ii) (.int .i64 nd) (.int .i64 ce) (.int .i64 e) (.int .i64 0) (.int .i64 0) (.int .i64 0) (.int .i64 0) (.int .i64 0)
  go_wp2_with fail
  have R := row17 (G9.tl 3 rfl)
  exact bodyPost_ret (resM2 R Try.results29 rfl rfl) rfl ⟨mv', rfl, (Has.untail _ _ G9)⟩
--]S6
end
end Go.Proofs.Ytmiaghbakdapbaa
