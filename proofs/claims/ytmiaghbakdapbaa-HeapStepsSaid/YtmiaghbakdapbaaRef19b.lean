/- The reference's machine of layer 19: rest, take. Conditions: the configuration may be; words are words. -/
import Derived.Test.YtmiaghbakdapbaaRef19a
import Derived.StillTailTactics
set_option linter.unusedVariables false
set_option linter.unusedSimpArgs false
set_option linter.unusedSectionVars false
namespace Go.Proofs.Ytmiaghbakdapbaa
open Go.ChangeShapes Go.WideShapes Go.ChangeAt Go.RowKit

theorem RAtK_h {w0 w : World} {cs : List (Chunk w0.heap.size)} (H : Has w0 w cs) (q : Nat) {lv : Value} {c : Cfg} (n : Int) (hq : cs[q]? = some (ownT _ lv c.things)) (h : CfgOk c) (k a b p : Int) (hk : 6 ≤ k ∧ k ≤ 18) (hb : ¬ (k = 10 ∨ k = 13 ∨ k = 18) → b = 0) (hp : c.atOf ⟨k, a, b⟩ = p) :
    Calls Try.prog 65 #[.agg #[lv, .int .i64 n], .int .i64 k, .int .i64 a, .int .i64 b] w fun e w' => e = .returned (.int .i64 p) ∧ Has w0 w' cs := by
  subst hp
  exact RAt11_h H q n hq h ⟨k, a, b⟩ ⟨by dsimp only; omega, (fun r => by exfalso; have : k ≤ 5 := r; omega), hb⟩
theorem RPairT_c (hh lk : Int) (h0 : 0 ≤ hh) (h1 : hh < 18446744073709551616) (l0 : 0 ≤ lk) (l1 : lk < 4294967296) (w : World) :
    Calls Try.prog 82 #[.int .u32 (IntKind.u32.wrap (hh / 4294967296 + 1)), .int .u32 lk] w fun e w' => e = .returned (.int .u64 (wTurn hh lk)) ∧ ∃ n, w' = w.drewN n := by
  have e1 : wTurn hh lk = IntKind.u32.wrap (hh / 4294967296 + 1) * 4294967296 + lk := by rw [wrapu32]; rfl
  rw [e1]
  have e2 := wrapu32 (hh / 4294967296 + 1)
  exact RPair_c _ _ (by omega) (by omega) l0 l1 w
theorem app3 {α : Type} (cs : List α) (a b d : α) : cs ++ [a] ++ [b] ++ [d] = cs ++ [a, b, d] := by simp
theorem app4 {α : Type} (cs : List α) (a b d e : α) : cs ++ [a] ++ [b] ++ [d] ++ [e] = cs ++ [a, b, d, e] := by simp
--[REST
set_option maxRecDepth 100000 in
set_option maxHeartbeats 4000000 in
theorem RRest19_h {w0 w : World} {cs : List (Chunk w0.heap.size)} (H : Has w0 w cs) (c : Cfg) (h : CfgOk c) (pc s k mk hh lk v tr ii nd ce e ek ea eb : Int) :
    Calls Try.prog 66 #[cfgV c, .agg #[.int .i64 pc, .int .i64 s, .int .i64 k, .int .u64 mk, .int .u64 hh, .int .u32 lk, .int .i64 v, .int .i64 tr, .int .i64 ii, .int .i64 nd, .int .i64 ce, .int .i64 e, .int .i64 ek, .int .i64 0, .int .i64 ea, .int .i64 eb, .int .i64 0]] w fun r w' => r = .returned (.agg #[.int .i64 ((hpRest c v ii : Nat) : Int), .int .i64 s, .int .i64 k, .int .u64 mk, .int .u64 hh, .int .u32 lk, .int .i64 v, .int .i64 tr, .int .i64 ii, .int .i64 nd, .int .i64 ce, .int .i64 e, .int .i64 ek, .int .i64 0, .int .i64 ea, .int .i64 eb, .int .i64 0]) ∧ Has w0 w' cs := by
  unfold cfgV cfgCells
  go_enter Try.func66, Try.ntmps66
  have G0 := ((H.blkNew (cfgCells c) 52).blkNew #[.int .i64 pc, .int .i64 s, .int .i64 k, .int .u64 mk, .int .u64 hh, .int .u32 lk, .int .i64 v, .int .i64 tr, .int .i64 ii, .int .i64 nd, .int .i64 ce, .int .i64 e, .int .i64 ek, .int .i64 0, .int .i64 ea, .int .i64 eb, .int .i64 0] 59).blkNew #[.int .i64 0, .int .i64 0, .int .i64 0, .int .u64 0, .int .u64 0, .int .u32 0, .int .i64 0, .int .i64 0, .int .i64 0, .int .i64 0, .int .i64 0, .int .i64 0, .int .i64 0, .int .i64 0, .int .i64 0, .int .i64 0, .int .i64 0] 59
  have z1 : ∀ (w : World) o, (w.alloc o).heap.size = w.heap.size + 1 := fun w o => by simp
  simp only [z1] at G0
  rw [app3] at G0
  clear z1
  go_upto_region 1 with (fail)
  obtain ⟨W, HW, eW⟩ := G0.name
  have eW2 := eW.out
  simp only [cfgCells] at eW2
  rw [← eW2]
  clear G0 eW eW2
  have G1 := HW.tlSet 1 rfl 0 (.int .i64 6)
  obtain ⟨W1, HW1', e1⟩ := G1.name
  have HW1 : Has w0 W1 (cs ++ [blkC _ w.heap.size (cfgCells c) 52, blkC _ (w.heap.size + 1) #[.int .i64 6, .int .i64 s, .int .i64 k, .int .u64 mk, .int .u64 hh, .int .u32 lk, .int .i64 v, .int .i64 tr, .int .i64 ii, .int .i64 nd, .int .i64 ce, .int .i64 e, .int .i64 ek, .int .i64 0, .int .i64 ea, .int .i64 eb, .int .i64 0] 59, blkC _ (w.heap.size + 1 + 1) #[.int .i64 0, .int .i64 0, .int .i64 0, .int .u64 0, .int .u64 0, .int .u32 0, .int .i64 0, .int .i64 0, .int .i64 0, .int .i64 0, .int .i64 0, .int .i64 0, .int .i64 0, .int .i64 0, .int .i64 0, .int .i64 0, .int .i64 0] 59]) := HW1'
  obtain ⟨x0, x1, x2, x3, x4, x5, x6, x7, x8, x9, x10, x11, x12, x13, x14, x15, x16, xf⟩ := row17 (HW.tl 1 rfl)
  go_upto_region 2 with (fail)
  rw [← e1.out]
  clear e1 G1 HW1' x0 x1 x2 x3 x4 x5 x6 x7 x8 x9 x10 x11 x12 x13 x14 x15 x16 xf HW
  obtain ⟨b0, b1, b2, b3, b4, b5, b6, b7, b8, b9, b10, b11, fb⟩ := row12 (HW1.tl 0 rfl)
  obtain ⟨x0, x1, x2, x3, x4, x5, x6, x7, x8, x9, x10, x11, x12, x13, x14, x15, x16, xf⟩ := row17 (HW1.tl 1 rfl)
  go_region_held3 (fun w' => w'.cell? ⟨w.heap.size, 0, none⟩ = some (.int .i64 c.c0) ∧ w'.cell? ⟨w.heap.size, 1, none⟩ = some (.int .i64 c.c1) ∧ w'.cell? ⟨w.heap.size, 2, none⟩ = some (.int .i64 c.c2) ∧ w'.cell? ⟨w.heap.size, 3, none⟩ = some (.int .i64 c.c3) ∧ w'.cell? ⟨w.heap.size, 4, none⟩ = some (.int .i64 c.c4) ∧ w'.cell? ⟨w.heap.size, 5, none⟩ = some (.int .i64 c.mr) ∧ w'.cell? ⟨w.heap.size, 6, none⟩ = some (.int .i64 c.mu) ∧ w'.cell? ⟨w.heap.size, 7, none⟩ = some (.int .i64 c.dq) ∧ w'.cell? ⟨w.heap.size, 8, none⟩ = some (.int .i64 c.ch) ∧ w'.cell? ⟨w.heap.size, 9, none⟩ = some (.int .i64 c.bf) ∧ w'.cell? ⟨w.heap.size, 10, none⟩ = some (.int .i64 c.rt) ∧ w'.cell? ⟨w.heap.size, 11, none⟩ = some (.int .i64 c.sw) ∧ w'.cell? ⟨w.heap.size + 1, 6, none⟩ = some (.int .i64 v) ∧ w'.cell? ⟨w.heap.size + 1, 8, none⟩ = some (.int .i64 ii)) (refine ⟨?_, ?_, ?_, ?_, ?_, ?_, ?_, ?_, ?_, ?_, ?_, ?_, ?_, ?_⟩ <;> (first | (with_reducible assumption) | (simp only [cell_drewN1, cell_drew1]; with_reducible assumption))) (first | (go_at_call 85; refine (RRoom19_h (HW1.drewN _) c h v).mono ?_; rintro r w2 ⟨rfl, G2⟩; obtain ⟨d0, d1, d2, d3, d4, d5, d6, d7, d8, d9, d10, d11, fd⟩ := row12 (G2.tl 0 rfl); obtain ⟨y0, y1, y2, y3, y4, y5, y6, y7, y8, y9, y10, y11, y12, y13, y14, y15, y16, yf⟩ := row17 (G2.tl 1 rfl)))
  by_cases hr : ii < c.roomAt v
  · have E1 := Lib.hid (hpRest_5 hr)
    have G3 := G2.tlSet 1 rfl 0 (.int .i64 5)
    go_upto_region 4 with (fail)
    obtain ⟨W3, HW3', e3⟩ := G3.name
    rw [← e3.out]
    have HW3 : Has w0 W3 (cs ++ [blkC _ w.heap.size (cfgCells c) 52, blkC _ (w.heap.size + 1) #[.int .i64 5, .int .i64 s, .int .i64 k, .int .u64 mk, .int .u64 hh, .int .u32 lk, .int .i64 v, .int .i64 tr, .int .i64 ii, .int .i64 nd, .int .i64 ce, .int .i64 e, .int .i64 ek, .int .i64 0, .int .i64 ea, .int .i64 eb, .int .i64 0] 59, blkC _ (w.heap.size + 1 + 1) #[.int .i64 0, .int .i64 0, .int .i64 0, .int .u64 0, .int .u64 0, .int .u32 0, .int .i64 0, .int .i64 0, .int .i64 0, .int .i64 0, .int .i64 0, .int .i64 0, .int .i64 0, .int .i64 0, .int .i64 0, .int .i64 0, .int .i64 0] 59]) := HW3'
    go_wp2_with (first | (refine wpl_getM (row17 (HW3.tl 1 rfl)) rfl (.tmp 3) rfl rfl ?_) | (refine wpl_putM HW3 2 rfl rfl (.tmp 4) _ rfl rfl rfl (by simp [Value.oneCell']) ?_; intro w4 G4))
    have R := row17 (G4.tl 2 rfl)
    exact bodyPost_ret (resM1 R Try.results66 rfl) rfl ⟨by rw [E1.out]; rfl, (Has.untail _ _ G4)⟩
  · have E1 := Lib.hid (hpRest_6 hr)
    go_wp2_with (first | (refine wpl_getM (row17 (G2.tl 1 rfl)) rfl (.tmp 3) rfl rfl ?_) | (refine wpl_putM G2 2 rfl rfl (.tmp 4) _ rfl rfl rfl (by simp [Value.oneCell']) ?_; intro w4 G4))
    have R := row17 (G4.tl 2 rfl)
    exact bodyPost_ret (resM1 R Try.results66 rfl) rfl ⟨by rw [E1.out]; rfl, (Has.untail _ _ G4)⟩
--]REST

section
variable {w0 w : World} {cs : List (Chunk w0.heap.size)} (H : Has w0 w cs) (i q : Nat) {mv lv : Value} {l : List Int} {c : Cfg} (n s k mk hh lk v tr ii nd ce e : Int) (hi : cs[i]? = some (slC _ .u64 mv l)) (hq : cs[q]? = some (ownT _ lv c.things)) (h : CfgOk c) (hl : l.length < 1000000000000)
include H hi hq h hl
--[T1
set_option maxRecDepth 100000 in
set_option maxHeartbeats 4000000 in
theorem rtake1 (hw : 0 ≤ mld l (c.headAt k) ∧ mld l (c.headAt k) < 18446744073709551616) :
    Calls Try.prog 64 #[.agg #[lv, .int .i64 n], mv, .agg #[.int .i64 1, .int .i64 s, .int .i64 k, .int .u64 mk, .int .u64 hh, .int .u32 lk, .int .i64 v, .int .i64 tr, .int .i64 ii, .int .i64 nd, .int .i64 ce, .int .i64 e, .int .i64 0, .int .i64 0, .int .i64 0, .int .i64 0, .int .i64 0]] w fun r w' => r = .returned (.tuple #[mv, .agg #[.int .i64 ((hpPc (mld l (c.headAt k) % 4294967296 == 0) 0 2 : Nat) : Int), .int .i64 s, .int .i64 k, .int .u64 mk, .int .u64 (mld l (c.headAt k)), .int .u32 lk, .int .i64 (mld l (c.headAt k) % 4294967296), .int .i64 (wrap64 (tr + 1)), .int .i64 ii, .int .i64 nd, .int .i64 ce, .int .i64 (hpE (mld l (c.headAt k) % 4294967296 == 0) 22 e), .int .i64 0, .int .i64 0, .int .i64 0, .int .i64 0, .int .i64 0]]) ∧ Has w0 w' cs := by
  obtain ⟨X, hX⟩ : ∃ X, X = mld l (c.headAt k) := ⟨_, rfl⟩
  rw [← hX] at hw ⊢
  have HX := Lib.hid hX
  obtain ⟨hw0, hw1⟩ := hw
  clear hX
  obtain ⟨la, lc, rfl⟩ := own_is (H.get q hq)
  obtain ⟨ma, mc, rfl, -, -⟩ := H.sl i hi
  have HQ := Lib.hid hq
  have HI := Lib.hid hi
  clear hi hq
  go_enter Try.func64, Try.ntmps64
  have G0 := ((H.blkNew #[.slice la c.things.length lc, .int .i64 n] 50).blkNew #[.int .i64 1, .int .i64 s, .int .i64 k, .int .u64 mk, .int .u64 hh, .int .u32 lk, .int .i64 v, .int .i64 tr, .int .i64 ii, .int .i64 nd, .int .i64 ce, .int .i64 e, .int .i64 0, .int .i64 0, .int .i64 0, .int .i64 0, .int .i64 0] 59).blkNew #[.int .i64 0, .int .i64 0, .int .i64 0, .int .u64 0, .int .u64 0, .int .u32 0, .int .i64 0, .int .i64 0, .int .i64 0, .int .i64 0, .int .i64 0, .int .i64 0, .int .i64 0, .int .i64 0, .int .i64 0, .int .i64 0, .int .i64 0] 59
  have z1 : ∀ (w : World) o, (w.alloc o).heap.size = w.heap.size + 1 := fun w o => by simp
  simp only [z1] at G0
  rw [app3] at G0
  clear z1
  go_upto_region 1 with (fail)
  obtain ⟨W, HW, eW⟩ := G0.name
  rw [← eW.out]
  clear G0 eW
  have a0 := blk_at (HW.tl 0 rfl) 0 (u := .slice la c.things.length lc) rfl
  have a1 := blk_at (HW.tl 0 rfl) 1 (u := .int .i64 n) rfl
  obtain ⟨x0, x1, x2, x3, x4, x5, x6, x7, x8, x9, x10, x11, x12, x13, x14, x15, x16, xf⟩ := row17 (HW.tl 1 rfl)
  go_wp2_with fail
  refine (RAtK_h HW q n (hd_get HQ.out _) h 7 k 0 (c.headAt k) (by decide) (fun _ => rfl) (atOf7 k 0)).mono ?_
  rintro r w1 ⟨rfl, G1⟩
  clear a0 a1 x0 x1 x2 x3 x4 x5 x6 x7 x8 x9 x10 x11 x12 x13 x14 x15 x16 xf
  have a0 := blk_at (G1.tl 0 rfl) 0 (u := .slice la c.things.length lc) rfl
  have a1 := blk_at (G1.tl 0 rfl) 1 (u := .int .i64 n) rfl
  obtain ⟨x0, x1, x2, x3, x4, x5, x6, x7, x8, x9, x10, x11, x12, x13, x14, x15, x16, xf⟩ := row17 (G1.tl 1 rfl)
  have q2 := G1.tlSet 1 rfl 7 (.int .i64 (wrap64 (tr + 1)))
  have G2 : Has w0 _ (cs ++ [blkC _ w.heap.size #[.slice la c.things.length lc, .int .i64 n] 50, blkC _ (w.heap.size + 1) #[.int .i64 1, .int .i64 s, .int .i64 k, .int .u64 mk, .int .u64 hh, .int .u32 lk, .int .i64 v, .int .i64 (wrap64 (tr + 1)), .int .i64 ii, .int .i64 nd, .int .i64 ce, .int .i64 e, .int .i64 0, .int .i64 0, .int .i64 0, .int .i64 0, .int .i64 0] 59, blkC _ (w.heap.size + 1 + 1) #[.int .i64 0, .int .i64 0, .int .i64 0, .int .u64 0, .int .u64 0, .int .u32 0, .int .i64 0, .int .i64 0, .int .i64 0, .int .i64 0, .int .i64 0, .int .i64 0, .int .i64 0, .int .i64 0, .int .i64 0, .int .i64 0, .int .i64 0] 59]) := q2
  clear q2
  go_wp2_with fail
  refine (RLoad_h G2 i (hd_get HI.out _) (c.headAt k)).mono ?_
  rw [← HX.out]
  rintro r w2 ⟨rfl, hw2⟩
  obtain rfl := hw2
  have q3 := G2.tlSet 1 rfl 4 (.int .u64 X)
  have G3 : Has w0 _ (cs ++ [blkC _ w.heap.size #[.slice la c.things.length lc, .int .i64 n] 50, blkC _ (w.heap.size + 1) #[.int .i64 1, .int .i64 s, .int .i64 k, .int .u64 mk, .int .u64 X, .int .u32 lk, .int .i64 v, .int .i64 (wrap64 (tr + 1)), .int .i64 ii, .int .i64 nd, .int .i64 ce, .int .i64 e, .int .i64 0, .int .i64 0, .int .i64 0, .int .i64 0, .int .i64 0] 59, blkC _ (w.heap.size + 1 + 1) #[.int .i64 0, .int .i64 0, .int .i64 0, .int .u64 0, .int .u64 0, .int .u32 0, .int .i64 0, .int .i64 0, .int .i64 0, .int .i64 0, .int .i64 0, .int .i64 0, .int .i64 0, .int .i64 0, .int .i64 0, .int .i64 0, .int .i64 0] 59]) := q3
  clear q3 G2
  go_wp2_with fail
  refine (RLow_c X hw0 hw1 _).mono ?_
  rintro r w3 ⟨rfl, d3, rfl⟩
  have ev : IntKind.i64.wrap (X % 4294967296) = X % 4294967296 := wrapi64_id _ (by omega) (by omega)
  have q4 := (G3.drewN d3).tlSet 1 rfl 6 (.int .i64 (X % 4294967296))
  have G4 : Has w0 _ (cs ++ [blkC _ w.heap.size #[.slice la c.things.length lc, .int .i64 n] 50, blkC _ (w.heap.size + 1) #[.int .i64 1, .int .i64 s, .int .i64 k, .int .u64 mk, .int .u64 X, .int .u32 lk, .int .i64 (X % 4294967296), .int .i64 (wrap64 (tr + 1)), .int .i64 ii, .int .i64 nd, .int .i64 ce, .int .i64 e, .int .i64 0, .int .i64 0, .int .i64 0, .int .i64 0, .int .i64 0] 59, blkC _ (w.heap.size + 1 + 1) #[.int .i64 0, .int .i64 0, .int .i64 0, .int .u64 0, .int .u64 0, .int .u32 0, .int .i64 0, .int .i64 0, .int .i64 0, .int .i64 0, .int .i64 0, .int .i64 0, .int .i64 0, .int .i64 0, .int .i64 0, .int .i64 0, .int .i64 0] 59]) := q4
  clear q4 G3
  have q5 := G4.tlSet 1 rfl 0 (.int .i64 2)
  have G5 : Has w0 _ (cs ++ [blkC _ w.heap.size #[.slice la c.things.length lc, .int .i64 n] 50, blkC _ (w.heap.size + 1) #[.int .i64 2, .int .i64 s, .int .i64 k, .int .u64 mk, .int .u64 X, .int .u32 lk, .int .i64 (X % 4294967296), .int .i64 (wrap64 (tr + 1)), .int .i64 ii, .int .i64 nd, .int .i64 ce, .int .i64 e, .int .i64 0, .int .i64 0, .int .i64 0, .int .i64 0, .int .i64 0] 59, blkC _ (w.heap.size + 1 + 1) #[.int .i64 0, .int .i64 0, .int .i64 0, .int .u64 0, .int .u64 0, .int .u32 0, .int .i64 0, .int .i64 0, .int .i64 0, .int .i64 0, .int .i64 0, .int .i64 0, .int .i64 0, .int .i64 0, .int .i64 0, .int .i64 0, .int .i64 0] 59]) := q5
  clear q5 G4
  go_upto_region 7 with (fail)
  obtain ⟨W6, HW6', e6⟩ := G5.name
  rw [← e6.out]
  have HW6 : Has w0 W6 (cs ++ [blkC _ w.heap.size #[.slice la c.things.length lc, .int .i64 n] 50, blkC _ (w.heap.size + 1) #[.int .i64 2, .int .i64 s, .int .i64 k, .int .u64 mk, .int .u64 X, .int .u32 lk, .int .i64 (X % 4294967296), .int .i64 (wrap64 (tr + 1)), .int .i64 ii, .int .i64 nd, .int .i64 ce, .int .i64 e, .int .i64 0, .int .i64 0, .int .i64 0, .int .i64 0, .int .i64 0] 59, blkC _ (w.heap.size + 1 + 1) #[.int .i64 0, .int .i64 0, .int .i64 0, .int .u64 0, .int .u64 0, .int .u32 0, .int .i64 0, .int .i64 0, .int .i64 0, .int .i64 0, .int .i64 0, .int .i64 0, .int .i64 0, .int .i64 0, .int .i64 0, .int .i64 0, .int .i64 0] 59]) := HW6'
  clear HW6' e6 G5 x0 x1 x2 x3 x4 x5 x6 x7 x8 x9 x10 x11 x12 x13 x14 x15 x16 xf
  obtain ⟨x0, x1, x2, x3, x4, x5, x6, x7, x8, x9, x10, x11, x12, x13, x14, x15, x16, xf⟩ := row17 (HW6.tl 1 rfl)
  by_cases hz : X % 4294967296 = 0
  · have E0 : (X % 4294967296 == 0) = true := by simpa using hz
    have E1 := Lib.hid E0
    go_upto_region 8 with (fail)
    clear E0 hz
    go_wp2_with fail
    have q6 := HW6.tlSet 1 rfl 0 (.int .i64 0)
    have G6 : Has w0 _ (cs ++ [blkC _ w.heap.size #[.slice la c.things.length lc, .int .i64 n] 50, blkC _ (w.heap.size + 1) #[.int .i64 0, .int .i64 s, .int .i64 k, .int .u64 mk, .int .u64 X, .int .u32 lk, .int .i64 (X % 4294967296), .int .i64 (wrap64 (tr + 1)), .int .i64 ii, .int .i64 nd, .int .i64 ce, .int .i64 e, .int .i64 0, .int .i64 0, .int .i64 0, .int .i64 0, .int .i64 0] 59, blkC _ (w.heap.size + 1 + 1) #[.int .i64 0, .int .i64 0, .int .i64 0, .int .u64 0, .int .u64 0, .int .u32 0, .int .i64 0, .int .i64 0, .int .i64 0, .int .i64 0, .int .i64 0, .int .i64 0, .int .i64 0, .int .i64 0, .int .i64 0, .int .i64 0, .int .i64 0] 59]) := q6
    have q7 := G6.tlSet 1 rfl 11 (.int .i64 22)
    clear q6
    obtain ⟨W5, HW5', e5⟩ := q7.name
    rw [← e5.out]
    have HW5 : Has w0 W5 (cs ++ [blkC _ w.heap.size #[.slice la c.things.length lc, .int .i64 n] 50, blkC _ (w.heap.size + 1) #[.int .i64 0, .int .i64 s, .int .i64 k, .int .u64 mk, .int .u64 X, .int .u32 lk, .int .i64 (X % 4294967296), .int .i64 (wrap64 (tr + 1)), .int .i64 ii, .int .i64 nd, .int .i64 ce, .int .i64 22, .int .i64 0, .int .i64 0, .int .i64 0, .int .i64 0, .int .i64 0] 59, blkC _ (w.heap.size + 1 + 1) #[.int .i64 0, .int .i64 0, .int .i64 0, .int .u64 0, .int .u64 0, .int .u32 0, .int .i64 0, .int .i64 0, .int .i64 0, .int .i64 0, .int .i64 0, .int .i64 0, .int .i64 0, .int .i64 0, .int .i64 0, .int .i64 0, .int .i64 0] 59]) := HW5'
    clear HW5' e5
    refine wp_region_still_tail 3 (by kernel_rfl) (by kernel_rfl) ?_
    simp only [List.take_succ_cons, List.take_zero, List.drop_succ_cons, List.drop_zero]
    change wpStill _ _ W5.drew _ _ _
    still_step
    refine still_getM (row17 (HW5.drew.tl 1 rfl)) rfl (.tmp 5) rfl rfl ?_
    still_step
    refine wpStill_nil ?_
    change wpList _ _ _ _ _ W5.drew
    go_wp2_with (refine wpl_putM HW5.drew 2 rfl rfl (.tmp 7) _ rfl rfl rfl (by simp [Value.oneCell']) ?_; intro w9 G9)
    have R := row17 (G9.tl 2 rfl)
    exact bodyPost_ret (resM2 R Try.results64 rfl rfl) rfl ⟨by rw [E1.out]; rfl, (Has.untail _ _ G9)⟩
  · have E0 : (X % 4294967296 == 0) = false := by simpa using hz
    have E1 := Lib.hid E0
    go_upto_region 10 with (fail)
    clear E0 hz
    obtain ⟨W5, HW5', e5⟩ := HW6.name
    have e5' := e5.out
    subst e5'
    have HW5 : Has w0 W5 (cs ++ [blkC _ w.heap.size #[.slice la c.things.length lc, .int .i64 n] 50, blkC _ (w.heap.size + 1) #[.int .i64 2, .int .i64 s, .int .i64 k, .int .u64 mk, .int .u64 X, .int .u32 lk, .int .i64 (X % 4294967296), .int .i64 (wrap64 (tr + 1)), .int .i64 ii, .int .i64 nd, .int .i64 ce, .int .i64 e, .int .i64 0, .int .i64 0, .int .i64 0, .int .i64 0, .int .i64 0] 59, blkC _ (w.heap.size + 1 + 1) #[.int .i64 0, .int .i64 0, .int .i64 0, .int .u64 0, .int .u64 0, .int .u32 0, .int .i64 0, .int .i64 0, .int .i64 0, .int .i64 0, .int .i64 0, .int .i64 0, .int .i64 0, .int .i64 0, .int .i64 0, .int .i64 0, .int .i64 0] 59]) := HW5'
    clear HW5' e5
    refine wp_region_still_tail 3 (by kernel_rfl) (by kernel_rfl) ?_
    simp only [List.take_succ_cons, List.take_zero, List.drop_succ_cons, List.drop_zero]
    change wpStill _ _ W5.drew _ _ _
    still_step
    refine still_getM (row17 (HW5.drew.tl 1 rfl)) rfl (.tmp 5) rfl rfl ?_
    still_step
    refine wpStill_nil ?_
    change wpList _ _ _ _ _ W5.drew
    go_wp2_with (refine wpl_putM HW5.drew 2 rfl rfl (.tmp 7) _ rfl rfl rfl (by simp [Value.oneCell']) ?_; intro w9 G9)
    have R := row17 (G9.tl 2 rfl)
    exact bodyPost_ret (resM2 R Try.results64 rfl rfl) rfl ⟨by rw [E1.out]; rfl, (Has.untail _ _ G9)⟩
--]T1
--[T2
set_option maxRecDepth 100000 in
set_option maxHeartbeats 4000000 in
theorem rtake2 (hw : 0 ≤ mld l (c.nodeAt v 3) ∧ mld l (c.nodeAt v 3) < 18446744073709551616) :
    Calls Try.prog 64 #[.agg #[lv, .int .i64 n], mv, .agg #[.int .i64 2, .int .i64 s, .int .i64 k, .int .u64 mk, .int .u64 hh, .int .u32 lk, .int .i64 v, .int .i64 tr, .int .i64 ii, .int .i64 nd, .int .i64 ce, .int .i64 e, .int .i64 0, .int .i64 0, .int .i64 0, .int .i64 0, .int .i64 0]] w fun r w' => r = .returned (.tuple #[mv, .agg #[.int .i64 3, .int .i64 s, .int .i64 k, .int .u64 mk, .int .u64 hh, .int .u32 (mld l (c.nodeAt v 3) % 4294967296), .int .i64 v, .int .i64 tr, .int .i64 ii, .int .i64 nd, .int .i64 ce, .int .i64 e, .int .i64 0, .int .i64 0, .int .i64 0, .int .i64 0, .int .i64 0]]) ∧ Has w0 w' cs := by
  obtain ⟨X, hX⟩ : ∃ X, X = mld l (c.nodeAt v 3) := ⟨_, rfl⟩
  rw [← hX] at hw ⊢
  have HX := Lib.hid hX
  obtain ⟨hw0, hw1⟩ := hw
  clear hX
  obtain ⟨la, lc, rfl⟩ := own_is (H.get q hq)
  obtain ⟨ma, mc, rfl, -, -⟩ := H.sl i hi
  have HQ := Lib.hid hq
  have HI := Lib.hid hi
  clear hi hq
  go_enter Try.func64, Try.ntmps64
  have G0 := ((H.blkNew #[.slice la c.things.length lc, .int .i64 n] 50).blkNew #[.int .i64 2, .int .i64 s, .int .i64 k, .int .u64 mk, .int .u64 hh, .int .u32 lk, .int .i64 v, .int .i64 tr, .int .i64 ii, .int .i64 nd, .int .i64 ce, .int .i64 e, .int .i64 0, .int .i64 0, .int .i64 0, .int .i64 0, .int .i64 0] 59).blkNew #[.int .i64 0, .int .i64 0, .int .i64 0, .int .u64 0, .int .u64 0, .int .u32 0, .int .i64 0, .int .i64 0, .int .i64 0, .int .i64 0, .int .i64 0, .int .i64 0, .int .i64 0, .int .i64 0, .int .i64 0, .int .i64 0, .int .i64 0] 59
  have z1 : ∀ (w : World) o, (w.alloc o).heap.size = w.heap.size + 1 := fun w o => by simp
  simp only [z1] at G0
  rw [app3] at G0
  clear z1
  go_upto_region 1 with (fail)
  obtain ⟨W, HW, eW⟩ := G0.name
  rw [← eW.out]
  clear G0 eW
  have a0 := blk_at (HW.tl 0 rfl) 0 (u := .slice la c.things.length lc) rfl
  have a1 := blk_at (HW.tl 0 rfl) 1 (u := .int .i64 n) rfl
  obtain ⟨x0, x1, x2, x3, x4, x5, x6, x7, x8, x9, x10, x11, x12, x13, x14, x15, x16, xf⟩ := row17 (HW.tl 1 rfl)
  go_wp2_with fail
  refine (RAtK_h HW q n (hd_get HQ.out _) h 7 k 0 (c.headAt k) (by decide) (fun _ => rfl) (atOf7 k 0)).mono ?_
  rintro r w1 ⟨rfl, G1⟩
  clear a0 a1 x0 x1 x2 x3 x4 x5 x6 x7 x8 x9 x10 x11 x12 x13 x14 x15 x16 xf
  have a0 := blk_at (G1.tl 0 rfl) 0 (u := .slice la c.things.length lc) rfl
  have a1 := blk_at (G1.tl 0 rfl) 1 (u := .int .i64 n) rfl
  obtain ⟨x0, x1, x2, x3, x4, x5, x6, x7, x8, x9, x10, x11, x12, x13, x14, x15, x16, xf⟩ := row17 (G1.tl 1 rfl)
  go_wp2_with fail
  refine (RAtK_h G1 q n (hd_get HQ.out _) h 17 v 0 (c.nodeAt v 3) (by decide) (fun _ => rfl) (atOfN 17 v 0 (by decide) (by decide))).mono ?_
  rintro r w2 ⟨rfl, G2⟩
  clear a0 a1 x0 x1 x2 x3 x4 x5 x6 x7 x8 x9 x10 x11 x12 x13 x14 x15 x16 xf
  obtain ⟨x0, x1, x2, x3, x4, x5, x6, x7, x8, x9, x10, x11, x12, x13, x14, x15, x16, xf⟩ := row17 (G2.tl 1 rfl)
  go_wp2_with fail
  refine (RLoad_h G2 i (hd_get HI.out _) (c.nodeAt v 3)).mono ?_
  rw [← HX.out]
  rintro r w3 ⟨rfl, hw3⟩
  obtain rfl := hw3
  go_wp2_with fail
  refine (RLow_c X hw0 hw1 _).mono ?_
  rintro r w4 ⟨rfl, d4, rfl⟩
  have q3 := (G2.drewN d4).tlSet 1 rfl 5 (.int .u32 (X % 4294967296))
  have G3 : Has w0 _ (cs ++ [blkC _ w.heap.size #[.slice la c.things.length lc, .int .i64 n] 50, blkC _ (w.heap.size + 1) #[.int .i64 2, .int .i64 s, .int .i64 k, .int .u64 mk, .int .u64 hh, .int .u32 (X % 4294967296), .int .i64 v, .int .i64 tr, .int .i64 ii, .int .i64 nd, .int .i64 ce, .int .i64 e, .int .i64 0, .int .i64 0, .int .i64 0, .int .i64 0, .int .i64 0] 59, blkC _ (w.heap.size + 1 + 1) #[.int .i64 0, .int .i64 0, .int .i64 0, .int .u64 0, .int .u64 0, .int .u32 0, .int .i64 0, .int .i64 0, .int .i64 0, .int .i64 0, .int .i64 0, .int .i64 0, .int .i64 0, .int .i64 0, .int .i64 0, .int .i64 0, .int .i64 0] 59]) := q3
  have q4 := G3.tlSet 1 rfl 0 (.int .i64 3)
  clear q3 G2
  go_wp2_with fail
  obtain ⟨W5, HW5', e5⟩ := q4.name
  rw [← e5.out]
  have HW5 : Has w0 W5 (cs ++ [blkC _ w.heap.size #[.slice la c.things.length lc, .int .i64 n] 50, blkC _ (w.heap.size + 1) #[.int .i64 3, .int .i64 s, .int .i64 k, .int .u64 mk, .int .u64 hh, .int .u32 (X % 4294967296), .int .i64 v, .int .i64 tr, .int .i64 ii, .int .i64 nd, .int .i64 ce, .int .i64 e, .int .i64 0, .int .i64 0, .int .i64 0, .int .i64 0, .int .i64 0] 59, blkC _ (w.heap.size + 1 + 1) #[.int .i64 0, .int .i64 0, .int .i64 0, .int .u64 0, .int .u64 0, .int .u32 0, .int .i64 0, .int .i64 0, .int .i64 0, .int .i64 0, .int .i64 0, .int .i64 0, .int .i64 0, .int .i64 0, .int .i64 0, .int .i64 0, .int .i64 0] 59]) := HW5'
  clear HW5' e5
  refine wp_region_still_tail 3 (by kernel_rfl) (by kernel_rfl) ?_
  simp only [List.take_succ_cons, List.take_zero, List.drop_succ_cons, List.drop_zero]
  change wpStill _ _ W5.drew _ _ _
  still_step
  refine still_getM (row17 (HW5.drew.tl 1 rfl)) rfl (.tmp 5) rfl rfl ?_
  still_step
  refine wpStill_nil ?_
  change wpList _ _ _ _ _ W5.drew
  go_wp2_with (refine wpl_putM HW5.drew 2 rfl rfl (.tmp 7) _ rfl rfl rfl (by simp [Value.oneCell']) ?_; intro w9 G9)
  have R := row17 (G9.tl 2 rfl)
  exact bodyPost_ret (resM2 R Try.results64 rfl rfl) rfl ⟨rfl, (Has.untail _ _ G9)⟩
--]T2
--[T3
set_option maxRecDepth 100000 in
set_option maxHeartbeats 4000000 in
theorem rtake3 (hw0 : 0 ≤ hh) (hw1 : hh < 18446744073709551616) (l0 : 0 ≤ lk) (l1 : lk < 4294967296) :
    Calls Try.prog 64 #[.agg #[lv, .int .i64 n], mv, .agg #[.int .i64 3, .int .i64 s, .int .i64 k, .int .u64 mk, .int .u64 hh, .int .u32 lk, .int .i64 v, .int .i64 tr, .int .i64 ii, .int .i64 nd, .int .i64 ce, .int .i64 e, .int .i64 0, .int .i64 0, .int .i64 0, .int .i64 0, .int .i64 0]] w fun r w' => ∃ mv', r = .returned (.tuple #[mv', .agg #[.int .i64 ((hpPc (mswapped l (c.headAt k) hh) 4 (hpPc (tr == 4) 0 1) : Nat) : Int), .int .i64 s, .int .i64 k, .int .u64 mk, .int .u64 hh, .int .u32 lk, .int .i64 v, .int .i64 tr, .int .i64 ii, .int .i64 nd, .int .i64 (hpE (mswapped l (c.headAt k) hh) v ce), .int .i64 (hpE (mswapped l (c.headAt k) hh) e (hpE (tr == 4) 23 e)), .int .i64 0, .int .i64 0, .int .i64 0, .int .i64 0, .int .i64 0]]) ∧ Has w0 w' (cs.set i (slC _ .u64 mv' (mswap l (c.headAt k) hh (wTurn hh lk)))) := by
  obtain ⟨B, hB⟩ : ∃ B, B = mswapped l (c.headAt k) hh := ⟨_, rfl⟩
  rw [← hB]
  have HB := Lib.hid hB
  clear hB
  obtain ⟨la, lc, rfl⟩ := own_is (H.get q hq)
  obtain ⟨ma, mc, rfl, -, -⟩ := H.sl i hi
  have HQ := Lib.hid hq
  have HI := Lib.hid hi
  clear hi hq
  go_enter Try.func64, Try.ntmps64
  have G0 := ((H.blkNew #[.slice la c.things.length lc, .int .i64 n] 50).blkNew #[.int .i64 3, .int .i64 s, .int .i64 k, .int .u64 mk, .int .u64 hh, .int .u32 lk, .int .i64 v, .int .i64 tr, .int .i64 ii, .int .i64 nd, .int .i64 ce, .int .i64 e, .int .i64 0, .int .i64 0, .int .i64 0, .int .i64 0, .int .i64 0] 59).blkNew #[.int .i64 0, .int .i64 0, .int .i64 0, .int .u64 0, .int .u64 0, .int .u32 0, .int .i64 0, .int .i64 0, .int .i64 0, .int .i64 0, .int .i64 0, .int .i64 0, .int .i64 0, .int .i64 0, .int .i64 0, .int .i64 0, .int .i64 0] 59
  have z1 : ∀ (w : World) o, (w.alloc o).heap.size = w.heap.size + 1 := fun w o => by simp
  simp only [z1] at G0
  rw [app3] at G0
  clear z1
  go_upto_region 1 with (fail)
  obtain ⟨W, HW, eW⟩ := G0.name
  rw [← eW.out]
  clear G0 eW
  have a0 := blk_at (HW.tl 0 rfl) 0 (u := .slice la c.things.length lc) rfl
  have a1 := blk_at (HW.tl 0 rfl) 1 (u := .int .i64 n) rfl
  obtain ⟨x0, x1, x2, x3, x4, x5, x6, x7, x8, x9, x10, x11, x12, x13, x14, x15, x16, xf⟩ := row17 (HW.tl 1 rfl)
  go_wp2_with fail
  refine (RAtK_h HW q n (hd_get HQ.out _) h 7 k 0 (c.headAt k) (by decide) (fun _ => rfl) (atOf7 k 0)).mono ?_
  rintro r w1 ⟨rfl, G1⟩
  clear a0 a1 x0 x1 x2 x3 x4 x5 x6 x7 x8 x9 x10 x11 x12 x13 x14 x15 x16 xf
  have a0 := blk_at (G1.tl 0 rfl) 0 (u := .slice la c.things.length lc) rfl
  have a1 := blk_at (G1.tl 0 rfl) 1 (u := .int .i64 n) rfl
  obtain ⟨x0, x1, x2, x3, x4, x5, x6, x7, x8, x9, x10, x11, x12, x13, x14, x15, x16, xf⟩ := row17 (G1.tl 1 rfl)
  go_wp2_with fail
  go_region_held3 (fun w' => w'.cell? ⟨w.heap.size + 1, 4, none⟩ = some (.int .u64 hh) ∧ w'.cell? ⟨w.heap.size + 1, 5, none⟩ = some (.int .u32 lk)) (refine ⟨?_, ?_⟩ <;> (first | (with_reducible assumption) | (simp only [cell_drewN1, cell_drew1]; with_reducible assumption))) (first | (go_at_call 83; refine (RHigh_c hh hw0 hw1 _).mono ?_; rintro r w2 ⟨rfl, d2, rfl⟩) | (go_at_call 82; refine (RPairT_c hh lk hw0 hw1 l0 l1 _).mono ?_; rintro r w3 ⟨rfl, d3, rfl⟩) | (go_at_call 81; refine (RSwap_h (G1.drewN _) i (hd_get HI.out _) (c.headAt k) hh (wTurn hh lk) hl).mono ?_; rw [← HB.out]; rintro r w4 ⟨mv', rfl, G2⟩; rw [hd_set HI.out] at G2; obtain ⟨y0, y1, y2, y3, y4, y5, y6, y7, y8, y9, y10, y11, y12, y13, y14, y15, y16, yf⟩ := row17 (G2.tl 1 (by rfl))))
  clear a0 a1 x0 x1 x2 x3 x4 x5 x6 x7 x8 x9 x10 x11 x12 x13 x14 x15 x16 xf y0 y1 y2 y3 y4 y5 y6 y7 y8 y9 y10 y11 y12 y13 y14 y15 y16 yf
  obtain ⟨cs', hcs⟩ : ∃ cs', cs' = cs.set i (slC _ .u64 mv' (mswap l (c.headAt k) hh (wTurn hh lk))) := ⟨_, rfl⟩
  rw [← hcs] at G2
  have hci : cs'[i]? = some (slC _ .u64 mv' (mswap l (c.headAt k) hh (wTurn hh lk))) := by rw [hcs]; exact lset_same19 HI.out _
  obtain ⟨na, nc, rfl, -, -⟩ := G2.sl i (hd_get hci _)
  have HCS := Lib.hid hcs
  clear hcs hci
  obtain ⟨x0, x1, x2, x3, x4, x5, x6, x7, x8, x9, x10, x11, x12, x13, x14, x15, x16, xf⟩ := row17 (G2.tl 1 rfl)
  have q3 := G2.tlSet 1 rfl 0 (.int .i64 1)
  have G3 : Has w0 _ (cs' ++ [blkC _ w.heap.size #[.slice la c.things.length lc, .int .i64 n] 50, blkC _ (w.heap.size + 1) #[.int .i64 1, .int .i64 s, .int .i64 k, .int .u64 mk, .int .u64 hh, .int .u32 lk, .int .i64 v, .int .i64 tr, .int .i64 ii, .int .i64 nd, .int .i64 ce, .int .i64 e, .int .i64 0, .int .i64 0, .int .i64 0, .int .i64 0, .int .i64 0] 59, blkC _ (w.heap.size + 1 + 1) #[.int .i64 0, .int .i64 0, .int .i64 0, .int .u64 0, .int .u64 0, .int .u32 0, .int .i64 0, .int .i64 0, .int .i64 0, .int .i64 0, .int .i64 0, .int .i64 0, .int .i64 0, .int .i64 0, .int .i64 0, .int .i64 0, .int .i64 0] 59]) := q3
  clear q3 G2
  cases B with
  | true =>
    go_wp2_with fail
    have q4 := G3.tlSet 1 rfl 10 (.int .i64 v)
    have G4 : Has w0 _ (cs' ++ [blkC _ w.heap.size #[.slice la c.things.length lc, .int .i64 n] 50, blkC _ (w.heap.size + 1) #[.int .i64 1, .int .i64 s, .int .i64 k, .int .u64 mk, .int .u64 hh, .int .u32 lk, .int .i64 v, .int .i64 tr, .int .i64 ii, .int .i64 nd, .int .i64 v, .int .i64 e, .int .i64 0, .int .i64 0, .int .i64 0, .int .i64 0, .int .i64 0] 59, blkC _ (w.heap.size + 1 + 1) #[.int .i64 0, .int .i64 0, .int .i64 0, .int .u64 0, .int .u64 0, .int .u32 0, .int .i64 0, .int .i64 0, .int .i64 0, .int .i64 0, .int .i64 0, .int .i64 0, .int .i64 0, .int .i64 0, .int .i64 0, .int .i64 0, .int .i64 0] 59]) := q4
    have q5 := G4.tlSet 1 rfl 0 (.int .i64 4)
    clear q4 G3
    obtain ⟨W5, HW5', e5⟩ := q5.name
    rw [← e5.out]
    have HW5 : Has w0 W5 (cs' ++ [blkC _ w.heap.size #[.slice la c.things.length lc, .int .i64 n] 50, blkC _ (w.heap.size + 1) #[.int .i64 4, .int .i64 s, .int .i64 k, .int .u64 mk, .int .u64 hh, .int .u32 lk, .int .i64 v, .int .i64 tr, .int .i64 ii, .int .i64 nd, .int .i64 v, .int .i64 e, .int .i64 0, .int .i64 0, .int .i64 0, .int .i64 0, .int .i64 0] 59, blkC _ (w.heap.size + 1 + 1) #[.int .i64 0, .int .i64 0, .int .i64 0, .int .u64 0, .int .u64 0, .int .u32 0, .int .i64 0, .int .i64 0, .int .i64 0, .int .i64 0, .int .i64 0, .int .i64 0, .int .i64 0, .int .i64 0, .int .i64 0, .int .i64 0, .int .i64 0] 59]) := HW5'
    clear HW5' e5
    refine wp_region_still_tail 3 (by kernel_rfl) (by kernel_rfl) ?_
    simp only [List.take_succ_cons, List.take_zero, List.drop_succ_cons, List.drop_zero]
    change wpStill _ _ W5.drew _ _ _
    still_step
    refine still_getM (row17 (HW5.drew.tl 1 rfl)) rfl (.tmp 5) rfl rfl ?_
    still_step
    refine wpStill_nil ?_
    change wpList _ _ _ _ _ W5.drew
    go_wp2_with (refine wpl_putM HW5.drew 2 rfl rfl (.tmp 7) _ rfl rfl rfl (by simp [Value.oneCell']) ?_; intro w9 G9)
    have R := row17 (G9.tl 2 rfl)
    exact bodyPost_ret (resM2 R Try.results64 rfl rfl) rfl ⟨.slice na (mswap l (c.headAt k) hh (wTurn hh lk)).length nc, rfl, by rw [← HCS.out]; exact (Has.untail _ _ G9)⟩
  | false =>
    by_cases h4 : tr = 4
    · have E0 : (tr == 4) = true := by simpa using h4
      have E1 := Lib.hid E0
      go_wp2_with fail
      have q4 := G3.tlSet 1 rfl 0 (.int .i64 0)
      have G4 : Has w0 _ (cs' ++ [blkC _ w.heap.size #[.slice la c.things.length lc, .int .i64 n] 50, blkC _ (w.heap.size + 1) #[.int .i64 0, .int .i64 s, .int .i64 k, .int .u64 mk, .int .u64 hh, .int .u32 lk, .int .i64 v, .int .i64 tr, .int .i64 ii, .int .i64 nd, .int .i64 ce, .int .i64 e, .int .i64 0, .int .i64 0, .int .i64 0, .int .i64 0, .int .i64 0] 59, blkC _ (w.heap.size + 1 + 1) #[.int .i64 0, .int .i64 0, .int .i64 0, .int .u64 0, .int .u64 0, .int .u32 0, .int .i64 0, .int .i64 0, .int .i64 0, .int .i64 0, .int .i64 0, .int .i64 0, .int .i64 0, .int .i64 0, .int .i64 0, .int .i64 0, .int .i64 0] 59]) := q4
      have q5 := G4.tlSet 1 rfl 11 (.int .i64 23)
      clear q4 G3 E0 h4
      obtain ⟨W5, HW5', e5⟩ := q5.name
      rw [← e5.out]
      have HW5 : Has w0 W5 (cs' ++ [blkC _ w.heap.size #[.slice la c.things.length lc, .int .i64 n] 50, blkC _ (w.heap.size + 1) #[.int .i64 0, .int .i64 s, .int .i64 k, .int .u64 mk, .int .u64 hh, .int .u32 lk, .int .i64 v, .int .i64 tr, .int .i64 ii, .int .i64 nd, .int .i64 ce, .int .i64 23, .int .i64 0, .int .i64 0, .int .i64 0, .int .i64 0, .int .i64 0] 59, blkC _ (w.heap.size + 1 + 1) #[.int .i64 0, .int .i64 0, .int .i64 0, .int .u64 0, .int .u64 0, .int .u32 0, .int .i64 0, .int .i64 0, .int .i64 0, .int .i64 0, .int .i64 0, .int .i64 0, .int .i64 0, .int .i64 0, .int .i64 0, .int .i64 0, .int .i64 0] 59]) := HW5'
      clear HW5' e5
      refine wp_region_still_tail 3 (by kernel_rfl) (by kernel_rfl) ?_
      simp only [List.take_succ_cons, List.take_zero, List.drop_succ_cons, List.drop_zero]
      change wpStill _ _ W5.drew _ _ _
      still_step
      refine still_getM (row17 (HW5.drew.tl 1 rfl)) rfl (.tmp 5) rfl rfl ?_
      still_step
      refine wpStill_nil ?_
      change wpList _ _ _ _ _ W5.drew
      go_wp2_with (refine wpl_putM HW5.drew 2 rfl rfl (.tmp 7) _ rfl rfl rfl (by simp [Value.oneCell']) ?_; intro w9 G9)
      have R := row17 (G9.tl 2 rfl)
      exact bodyPost_ret (resM2 R Try.results64 rfl rfl) rfl ⟨.slice na (mswap l (c.headAt k) hh (wTurn hh lk)).length nc, by rw [E1.out]; rfl, by rw [← HCS.out]; exact (Has.untail _ _ G9)⟩
    · have E0 : (tr == 4) = false := by simpa using h4
      have E1 := Lib.hid E0
      go_wp2_with fail
      clear E0 h4
      obtain ⟨W5, HW5', e5⟩ := G3.name
      rw [← e5.out]
      have HW5 : Has w0 W5 (cs' ++ [blkC _ w.heap.size #[.slice la c.things.length lc, .int .i64 n] 50, blkC _ (w.heap.size + 1) #[.int .i64 1, .int .i64 s, .int .i64 k, .int .u64 mk, .int .u64 hh, .int .u32 lk, .int .i64 v, .int .i64 tr, .int .i64 ii, .int .i64 nd, .int .i64 ce, .int .i64 e, .int .i64 0, .int .i64 0, .int .i64 0, .int .i64 0, .int .i64 0] 59, blkC _ (w.heap.size + 1 + 1) #[.int .i64 0, .int .i64 0, .int .i64 0, .int .u64 0, .int .u64 0, .int .u32 0, .int .i64 0, .int .i64 0, .int .i64 0, .int .i64 0, .int .i64 0, .int .i64 0, .int .i64 0, .int .i64 0, .int .i64 0, .int .i64 0, .int .i64 0] 59]) := HW5'
      clear HW5' e5
      refine wp_region_still_tail 3 (by kernel_rfl) (by kernel_rfl) ?_
      simp only [List.take_succ_cons, List.take_zero, List.drop_succ_cons, List.drop_zero]
      change wpStill _ _ W5.drew _ _ _
      still_step
      refine still_getM (row17 (HW5.drew.tl 1 rfl)) rfl (.tmp 5) rfl rfl ?_
      still_step
      refine wpStill_nil ?_
      change wpList _ _ _ _ _ W5.drew
      go_wp2_with (refine wpl_putM HW5.drew 2 rfl rfl (.tmp 7) _ rfl rfl rfl (by simp [Value.oneCell']) ?_; intro w9 G9)
      have R := row17 (G9.tl 2 rfl)
      exact bodyPost_ret (resM2 R Try.results64 rfl rfl) rfl ⟨.slice na (mswap l (c.headAt k) hh (wTurn hh lk)).length nc, by rw [E1.out]; rfl, by rw [← HCS.out]; exact (Has.untail _ _ G9)⟩
--]T3
end
end Go.Proofs.Ytmiaghbakdapbaa
