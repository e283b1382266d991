/- HeapSteps: the region in which the reference's machine makes its step. Conditions: the configuration may be; words are words. -/
import Derived.Test.YtmiaghbakdapbaaRef19f
import Derived.Deep.DeepCutAuto
set_option linter.unusedVariables false
set_option linter.unusedSimpArgs false
namespace Go.Proofs.Ytmiaghbakdapbaa
open Go.ChangeShapes Go.WideShapes Go.ChangeAt Go.RowKit

theorem alloc_cell19 {w : World} {b o : Nat} {u : Value} (ob : Obj) (hb : b < w.heap.size) (h : w.cell? ⟨b, o, none⟩ = some u) : (w.alloc ob).cell? ⟨b, o, none⟩ = some u := by
  rw [((Below.refl w.heap.size w).alloc (Nat.le_refl _) ob).cell (p := ⟨b, o, none⟩) hb]; exact h
/-- What the region reads. -/
structure P29 (w : World) (cb ab yb : Nat) (c : Cfg) (la : Option Addr) (lc : Nat) (m : Hp) : Prop where
  c0 : w.cell? ⟨cb, 0, none⟩ = some (.int .i64 c.c0)
  c1 : w.cell? ⟨cb, 1, none⟩ = some (.int .i64 c.c1)
  c2 : w.cell? ⟨cb, 2, none⟩ = some (.int .i64 c.c2)
  c3 : w.cell? ⟨cb, 3, none⟩ = some (.int .i64 c.c3)
  c4 : w.cell? ⟨cb, 4, none⟩ = some (.int .i64 c.c4)
  c5 : w.cell? ⟨cb, 5, none⟩ = some (.int .i64 c.mr)
  c6 : w.cell? ⟨cb, 6, none⟩ = some (.int .i64 c.mu)
  c7 : w.cell? ⟨cb, 7, none⟩ = some (.int .i64 c.dq)
  c8 : w.cell? ⟨cb, 8, none⟩ = some (.int .i64 c.ch)
  c9 : w.cell? ⟨cb, 9, none⟩ = some (.int .i64 c.bf)
  c10 : w.cell? ⟨cb, 10, none⟩ = some (.int .i64 c.rt)
  c11 : w.cell? ⟨cb, 11, none⟩ = some (.int .i64 c.sw)
  a0 : w.cell? ⟨ab, 0, none⟩ = some (.slice la c.things.length lc)
  a1 : w.cell? ⟨ab, 1, none⟩ = some (.int .i64 c.mn)
  y0 : w.cell? ⟨yb, 0, none⟩ = some (.int .i64 (m.pc : Int))
  y1 : w.cell? ⟨yb, 1, none⟩ = some (.int .i64 m.slots)
  y2 : w.cell? ⟨yb, 2, none⟩ = some (.int .i64 m.cls)
  y3 : w.cell? ⟨yb, 3, none⟩ = some (.int .u64 m.mark)
  y4 : w.cell? ⟨yb, 4, none⟩ = some (.int .u64 m.h)
  y5 : w.cell? ⟨yb, 5, none⟩ = some (.int .u32 m.link)
  y6 : w.cell? ⟨yb, 6, none⟩ = some (.int .i64 m.v)
  y7 : w.cell? ⟨yb, 7, none⟩ = some (.int .i64 m.tries)
  y8 : w.cell? ⟨yb, 8, none⟩ = some (.int .i64 m.i)
  y9 : w.cell? ⟨yb, 9, none⟩ = some (.int .i64 m.node)
  y10 : w.cell? ⟨yb, 10, none⟩ = some (.int .i64 (hpCell m))
  y11 : w.cell? ⟨yb, 11, none⟩ = some (.int .i64 m.e)
  y12 : w.cell? ⟨yb, 12, none⟩ = some (.int .i64 m.ek)
  y13 : w.cell? ⟨yb, 13, none⟩ = some (.int .i64 0)
  y14 : w.cell? ⟨yb, 14, none⟩ = some (.int .i64 m.ea)
  y15 : w.cell? ⟨yb, 15, none⟩ = some (.int .i64 m.eb)
  y16 : w.cell? ⟨yb, 16, none⟩ = some (.int .i64 0)

section
variable {w : World} {cb ab yb : Nat} {c : Cfg} {la : Option Addr} {lc : Nat} {m : Hp} (P : P29 w cb ab yb c la lc m)
include P
theorem P29.drewN (n : Nat) : P29 (w.drewN n) cb ab yb c la lc m := ⟨P.c0, P.c1, P.c2, P.c3, P.c4, P.c5, P.c6, P.c7, P.c8, P.c9, P.c10, P.c11, P.a0, P.a1, P.y0, P.y1, P.y2, P.y3, P.y4, P.y5, P.y6, P.y7, P.y8, P.y9, P.y10, P.y11, P.y12, P.y13, P.y14, P.y15, P.y16⟩
theorem P29.drew : P29 w.drew cb ab yb c la lc m := ⟨P.c0, P.c1, P.c2, P.c3, P.c4, P.c5, P.c6, P.c7, P.c8, P.c9, P.c10, P.c11, P.a0, P.a1, P.y0, P.y1, P.y2, P.y3, P.y4, P.y5, P.y6, P.y7, P.y8, P.y9, P.y10, P.y11, P.y12, P.y13, P.y14, P.y15, P.y16⟩
theorem P29.alloc (ob : Obj) (h0 : cb < w.heap.size) (h1 : ab < w.heap.size) (h2 : yb < w.heap.size) : P29 (w.alloc ob) cb ab yb c la lc m := ⟨alloc_cell19 ob h0 P.c0, alloc_cell19 ob h0 P.c1, alloc_cell19 ob h0 P.c2, alloc_cell19 ob h0 P.c3, alloc_cell19 ob h0 P.c4, alloc_cell19 ob h0 P.c5, alloc_cell19 ob h0 P.c6, alloc_cell19 ob h0 P.c7, alloc_cell19 ob h0 P.c8, alloc_cell19 ob h0 P.c9, alloc_cell19 ob h0 P.c10, alloc_cell19 ob h0 P.c11, alloc_cell19 ob h1 P.a0, alloc_cell19 ob h1 P.a1, alloc_cell19 ob h2 P.y0, alloc_cell19 ob h2 P.y1, alloc_cell19 ob h2 P.y2, alloc_cell19 ob h2 P.y3, alloc_cell19 ob h2 P.y4, alloc_cell19 ob h2 P.y5, alloc_cell19 ob h2 P.y6, alloc_cell19 ob h2 P.y7, alloc_cell19 ob h2 P.y8, alloc_cell19 ob h2 P.y9, alloc_cell19 ob h2 P.y10, alloc_cell19 ob h2 P.y11, alloc_cell19 ob h2 P.y12, alloc_cell19 ob h2 P.y13, alloc_cell19 ob h2 P.y14, alloc_cell19 ob h2 P.y15, alloc_cell19 ob h2 P.y16⟩
theorem P29.far (q : Nat) (v0 v1 v2 v3 v4 v5 v6 v7 v8 v9 v10 v11 v12 v13 v14 v15 v16 : Value) (h0 : cb ≠ q) (h1 : ab ≠ q) (h2 : yb ≠ q) : P29 (((((((((((((((((w.setCell ⟨q, 0, none⟩ v0).setCell ⟨q, 1, none⟩ v1).setCell ⟨q, 2, none⟩ v2).setCell ⟨q, 3, none⟩ v3).setCell ⟨q, 4, none⟩ v4).setCell ⟨q, 5, none⟩ v5).setCell ⟨q, 6, none⟩ v6).setCell ⟨q, 7, none⟩ v7).setCell ⟨q, 8, none⟩ v8).setCell ⟨q, 9, none⟩ v9).setCell ⟨q, 10, none⟩ v10).setCell ⟨q, 11, none⟩ v11).setCell ⟨q, 12, none⟩ v12).setCell ⟨q, 13, none⟩ v13).setCell ⟨q, 14, none⟩ v14).setCell ⟨q, 15, none⟩ v15).setCell ⟨q, 16, none⟩ v16) cb ab yb c la lc m := ⟨(far17 w q v0 v1 v2 v3 v4 v5 v6 v7 v8 v9 v10 v11 v12 v13 v14 v15 v16 cb 0 h0).trans P.c0, (far17 w q v0 v1 v2 v3 v4 v5 v6 v7 v8 v9 v10 v11 v12 v13 v14 v15 v16 cb 1 h0).trans P.c1, (far17 w q v0 v1 v2 v3 v4 v5 v6 v7 v8 v9 v10 v11 v12 v13 v14 v15 v16 cb 2 h0).trans P.c2, (far17 w q v0 v1 v2 v3 v4 v5 v6 v7 v8 v9 v10 v11 v12 v13 v14 v15 v16 cb 3 h0).trans P.c3, (far17 w q v0 v1 v2 v3 v4 v5 v6 v7 v8 v9 v10 v11 v12 v13 v14 v15 v16 cb 4 h0).trans P.c4, (far17 w q v0 v1 v2 v3 v4 v5 v6 v7 v8 v9 v10 v11 v12 v13 v14 v15 v16 cb 5 h0).trans P.c5, (far17 w q v0 v1 v2 v3 v4 v5 v6 v7 v8 v9 v10 v11 v12 v13 v14 v15 v16 cb 6 h0).trans P.c6, (far17 w q v0 v1 v2 v3 v4 v5 v6 v7 v8 v9 v10 v11 v12 v13 v14 v15 v16 cb 7 h0).trans P.c7, (far17 w q v0 v1 v2 v3 v4 v5 v6 v7 v8 v9 v10 v11 v12 v13 v14 v15 v16 cb 8 h0).trans P.c8, (far17 w q v0 v1 v2 v3 v4 v5 v6 v7 v8 v9 v10 v11 v12 v13 v14 v15 v16 cb 9 h0).trans P.c9, (far17 w q v0 v1 v2 v3 v4 v5 v6 v7 v8 v9 v10 v11 v12 v13 v14 v15 v16 cb 10 h0).trans P.c10, (far17 w q v0 v1 v2 v3 v4 v5 v6 v7 v8 v9 v10 v11 v12 v13 v14 v15 v16 cb 11 h0).trans P.c11, (far17 w q v0 v1 v2 v3 v4 v5 v6 v7 v8 v9 v10 v11 v12 v13 v14 v15 v16 ab 0 h1).trans P.a0, (far17 w q v0 v1 v2 v3 v4 v5 v6 v7 v8 v9 v10 v11 v12 v13 v14 v15 v16 ab 1 h1).trans P.a1, (far17 w q v0 v1 v2 v3 v4 v5 v6 v7 v8 v9 v10 v11 v12 v13 v14 v15 v16 yb 0 h2).trans P.y0, (far17 w q v0 v1 v2 v3 v4 v5 v6 v7 v8 v9 v10 v11 v12 v13 v14 v15 v16 yb 1 h2).trans P.y1, (far17 w q v0 v1 v2 v3 v4 v5 v6 v7 v8 v9 v10 v11 v12 v13 v14 v15 v16 yb 2 h2).trans P.y2, (far17 w q v0 v1 v2 v3 v4 v5 v6 v7 v8 v9 v10 v11 v12 v13 v14 v15 v16 yb 3 h2).trans P.y3, (far17 w q v0 v1 v2 v3 v4 v5 v6 v7 v8 v9 v10 v11 v12 v13 v14 v15 v16 yb 4 h2).trans P.y4, (far17 w q v0 v1 v2 v3 v4 v5 v6 v7 v8 v9 v10 v11 v12 v13 v14 v15 v16 yb 5 h2).trans P.y5, (far17 w q v0 v1 v2 v3 v4 v5 v6 v7 v8 v9 v10 v11 v12 v13 v14 v15 v16 yb 6 h2).trans P.y6, (far17 w q v0 v1 v2 v3 v4 v5 v6 v7 v8 v9 v10 v11 v12 v13 v14 v15 v16 yb 7 h2).trans P.y7, (far17 w q v0 v1 v2 v3 v4 v5 v6 v7 v8 v9 v10 v11 v12 v13 v14 v15 v16 yb 8 h2).trans P.y8, (far17 w q v0 v1 v2 v3 v4 v5 v6 v7 v8 v9 v10 v11 v12 v13 v14 v15 v16 yb 9 h2).trans P.y9, (far17 w q v0 v1 v2 v3 v4 v5 v6 v7 v8 v9 v10 v11 v12 v13 v14 v15 v16 yb 10 h2).trans P.y10, (far17 w q v0 v1 v2 v3 v4 v5 v6 v7 v8 v9 v10 v11 v12 v13 v14 v15 v16 yb 11 h2).trans P.y11, (far17 w q v0 v1 v2 v3 v4 v5 v6 v7 v8 v9 v10 v11 v12 v13 v14 v15 v16 yb 12 h2).trans P.y12, (far17 w q v0 v1 v2 v3 v4 v5 v6 v7 v8 v9 v10 v11 v12 v13 v14 v15 v16 yb 13 h2).trans P.y13, (far17 w q v0 v1 v2 v3 v4 v5 v6 v7 v8 v9 v10 v11 v12 v13 v14 v15 v16 yb 14 h2).trans P.y14, (far17 w q v0 v1 v2 v3 v4 v5 v6 v7 v8 v9 v10 v11 v12 v13 v14 v15 v16 yb 15 h2).trans P.y15, (far17 w q v0 v1 v2 v3 v4 v5 v6 v7 v8 v9 v10 v11 v12 v13 v14 v15 v16 yb 16 h2).trans P.y16⟩
end
theorem p29_of {w : World} {cb ab yb : Nat} {c : Cfg} {la : Option Addr} {lc : Nat} {m : Hp} {TC TA TM : TypeId} (h0 : w.heap[cb]? = some (.cells (cfgCells c) TC (0, 0))) (h1 : w.heap[ab]? = some (.cells #[.slice la c.things.length lc, .int .i64 c.mn] TA (0, 0))) (h2 : w.heap[yb]? = some (.cells #[.int .i64 (m.pc : Int), .int .i64 m.slots, .int .i64 m.cls, .int .u64 m.mark, .int .u64 m.h, .int .u32 m.link, .int .i64 m.v, .int .i64 m.tries, .int .i64 m.i, .int .i64 m.node, .int .i64 (hpCell m), .int .i64 m.e, .int .i64 m.ek, .int .i64 0, .int .i64 m.ea, .int .i64 m.eb, .int .i64 0] TM (0, 0))) : P29 w cb ab yb c la lc m :=
  ⟨blk_at h0 0 rfl, blk_at h0 1 rfl, blk_at h0 2 rfl, blk_at h0 3 rfl, blk_at h0 4 rfl, blk_at h0 5 rfl, blk_at h0 6 rfl, blk_at h0 7 rfl, blk_at h0 8 rfl, blk_at h0 9 rfl, blk_at h0 10 rfl, blk_at h0 11 rfl, blk_at h1 0 rfl, blk_at h1 1 rfl, blk_at h2 0 rfl, blk_at h2 1 rfl, blk_at h2 2 rfl, blk_at h2 3 rfl, blk_at h2 4 rfl, blk_at h2 5 rfl, blk_at h2 6 rfl, blk_at h2 7 rfl, blk_at h2 8 rfl, blk_at h2 9 rfl, blk_at h2 10 rfl, blk_at h2 11 rfl, blk_at h2 12 rfl, blk_at h2 13 rfl, blk_at h2 14 rfl, blk_at h2 15 rfl, blk_at h2 16 rfl⟩
theorem stV {w : World} {b : Nat} {x0 x1 x2 x3 x4 x5 x6 x7 x8 x9 x10 x11 x12 x13 x14 x15 x16 v0 v1 v2 v3 v4 v5 v6 v7 v8 v9 v10 v11 v12 v13 v14 v15 v16 V : Value} (hV : V = .agg #[v0, v1, v2, v3, v4, v5, v6, v7, v8, v9, v10, v11, v12, v13, v14, v15, v16]) (R : Row17 w b x0 x1 x2 x3 x4 x5 x6 x7 x8 x9 x10 x11 x12 x13 x14 x15 x16) (h1 : ∀ v ∈ [v0, v1, v2, v3, v4, v5, v6, v7, v8, v9, v10, v11, v12, v13, v14, v15, v16], v.oneCell' = true) : Sem.run Try.prog (storeCells ⟨b, 0, none⟩ V.cells.toList) w = Result.ok () (w.setCells b 0 [v0, v1, v2, v3, v4, v5, v6, v7, v8, v9, v10, v11, v12, v13, v14, v15, v16]) := by
  subst hV
  have q := run_storeCells_cells (P := Try.prog) b 0 [v0, v1, v2, v3, v4, v5, v6, v7, v8, v9, v10, v11, v12, v13, v14, v15, v16] 0 w (fun j hj => by
    rw [Nat.zero_add]
    match j, hj with
    | 0, _ => rw [R.c0]; rfl
    | 1, _ => rw [R.c1]; rfl
    | 2, _ => rw [R.c2]; rfl
    | 3, _ => rw [R.c3]; rfl
    | 4, _ => rw [R.c4]; rfl
    | 5, _ => rw [R.c5]; rfl
    | 6, _ => rw [R.c6]; rfl
    | 7, _ => rw [R.c7]; rfl
    | 8, _ => rw [R.c8]; rfl
    | 9, _ => rw [R.c9]; rfl
    | 10, _ => rw [R.c10]; rfl
    | 11, _ => rw [R.c11]; rfl
    | 12, _ => rw [R.c12]; rfl
    | 13, _ => rw [R.c13]; rfl
    | 14, _ => rw [R.c14]; rfl
    | 15, _ => rw [R.c15]; rfl
    | 16, _ => rw [R.c16]; rfl
    | n + 17, hj => exact absurd hj (by simp)) (fun j hj => by rw [Nat.zero_add]; exact R.fz j) h1
  exact q

/-- The regions of a code, in order. -/
def regsOf : Code → List Code
  | .region i o b => [.region i o b]
  | .loop c => regsOf c
  | .seq a b => regsOf a ++ regsOf b
  | .block _ c => regsOf c
  | .scope c => regsOf c
  | .cond _ a b => regsOf a ++ regsOf b
  | _ => []
noncomputable def reg29 : Code := (((Try.f4.body.map regsOf).getD [])[28]?).getD .skip

set_option maxRecDepth 1000000 in
set_option maxHeartbeats 16000000 in
theorem r29 {w t3 : World} (c : Cfg) (h : CfgOk c) (mb sb sg xb ab yb lc mc : Nat) (av rv : Value) (la ma : Option Addr) (sl l1 : List Int) (sn : Int) (sx m' sy : Hp) (hl1 : l1.length < 1000000000000) (ho : HpOk m') (ht : Tk m') (hw1 : Wm l1) (HSX2 : Hid (sy = (hpStep c l1 m').2)) (HSL2 : Hid (sl = (hpStep c l1 m').1)) (s0 s1 s2 s3 s4 s6 s7 s8 s9 s10 s11 s12 s13 s14 s16 s17 s19 s21 s22 s23 s24 s25 s26 s27 s28 s29 s30 s31 s32 s33 s34 s35 s36 s37 s38 s39 s40 s41 s42 s43 s44 s45 s46 s47 s48 s49 s50 s51 s52 s53 s54 s55 s56 s57 s58 s59 s60 s61 s62 s63 s64 s65 s66 s67 s68 s69 s70 s71 s72 s73 s74 s75 s76 s77 s78 s79 s80 s81 s82 s83 s84 s85 s86 s87 s88 s89 s90 s91 s92 s93 s94 s95 s96 s97 s98 s99 s100 s101 s102 s103 s104 s105 s106 s107 s108 s109 s110 s111 s112 s113 s114 s115 s116 s117 s118 s119 s120 s121 s122 s123 s124 s125 s126 s127 s128 s129 s130 s131 s132 s133 s134 s135 s136 s137 s138 s139 s140 s141 s142 s143 s144 s145 s146 s147 s148 s149 s150 s151 s152 s153 s154 : Value) (rest : List Value) (Q : Exit → Act → World → Prop)
    (G3 : Has w t3 [blkC _ w.heap.size (cfgCells c) 24, mapC _ mb av rv c, ownT _ (.slice la c.things.length lc) c.things, blkC _ ab #[.slice la c.things.length lc, .int .i64 c.mn] 50, storeC _ sb sg sl sn, slC _ .u64 (.slice ma l1.length mc) l1, hpC _ xb mb sx, blkC _ yb #[.int .i64 (m'.pc : Int), .int .i64 m'.slots, .int .i64 m'.cls, .int .u64 m'.mark, .int .u64 m'.h, .int .u32 m'.link, .int .i64 m'.v, .int .i64 m'.tries, .int .i64 m'.i, .int .i64 m'.node, .int .i64 (hpCell m'), .int .i64 m'.e, .int .i64 m'.ek, .int .i64 0, .int .i64 m'.ea, .int .i64 m'.eb, .int .i64 0] 59])
    (hexit : ∀ (mv2 : Value) (qb : Nat) (u146 u147 u148 u149 u150 u151 u152 u153 u154 : Value) (w' : World), Has w w' [blkC _ w.heap.size (cfgCells c) 24, mapC _ mb av rv c, ownT _ (.slice la c.things.length lc) c.things, blkC _ ab #[.slice la c.things.length lc, .int .i64 c.mn] 50, storeC _ sb sg sl sn, slC _ .u64 mv2 sl, hpC _ xb mb sx, blkC _ yb #[.int .i64 (m'.pc : Int), .int .i64 m'.slots, .int .i64 m'.cls, .int .u64 m'.mark, .int .u64 m'.h, .int .u32 m'.link, .int .i64 m'.v, .int .i64 m'.tries, .int .i64 m'.i, .int .i64 m'.node, .int .i64 (hpCell m'), .int .i64 m'.e, .int .i64 m'.ek, .int .i64 0, .int .i64 m'.ea, .int .i64 m'.eb, .int .i64 0] 59, blkC _ qb #[.int .i64 (sy.pc : Int), .int .i64 sy.slots, .int .i64 sy.cls, .int .u64 sy.mark, .int .u64 sy.h, .int .u32 sy.link, .int .i64 sy.v, .int .i64 sy.tries, .int .i64 sy.i, .int .i64 sy.node, .int .i64 (hpCell sy), .int .i64 sy.e, .int .i64 sy.ek, .int .i64 0, .int .i64 sy.ea, .int .i64 sy.eb, .int .i64 0] 59] → Q .normal ⟨List.toArray (s0 :: s1 :: s2 :: s3 :: s4 :: .pointer (some ⟨w.heap.size, 0, none⟩) :: s6 :: s7 :: s8 :: s9 :: s10 :: s11 :: s12 :: s13 :: s14 :: .pointer (some ⟨ab, 0, none⟩) :: s16 :: s17 :: .slice ma l1.length mc :: s19 :: .pointer (some ⟨yb, 0, none⟩) :: s21 :: s22 :: s23 :: s24 :: s25 :: mv2 :: .pointer (some ⟨qb, 0, none⟩) :: s28 :: s29 :: s30 :: s31 :: s32 :: s33 :: s34 :: s35 :: s36 :: s37 :: s38 :: s39 :: s40 :: s41 :: s42 :: s43 :: s44 :: s45 :: s46 :: s47 :: s48 :: s49 :: s50 :: s51 :: s52 :: s53 :: s54 :: s55 :: s56 :: s57 :: s58 :: s59 :: s60 :: s61 :: s62 :: s63 :: s64 :: s65 :: s66 :: s67 :: s68 :: s69 :: s70 :: s71 :: s72 :: s73 :: s74 :: s75 :: s76 :: s77 :: s78 :: s79 :: s80 :: s81 :: s82 :: s83 :: s84 :: s85 :: s86 :: s87 :: s88 :: s89 :: s90 :: s91 :: s92 :: s93 :: s94 :: s95 :: s96 :: s97 :: s98 :: s99 :: s100 :: s101 :: s102 :: s103 :: s104 :: s105 :: s106 :: s107 :: s108 :: s109 :: s110 :: s111 :: s112 :: s113 :: s114 :: s115 :: s116 :: s117 :: s118 :: s119 :: s120 :: s121 :: s122 :: s123 :: s124 :: s125 :: s126 :: s127 :: s128 :: s129 :: s130 :: s131 :: s132 :: s133 :: s134 :: s135 :: s136 :: s137 :: s138 :: s139 :: s140 :: s141 :: s142 :: s143 :: s144 :: s145 :: u146 :: u147 :: u148 :: u149 :: u150 :: u151 :: u152 :: u153 :: u154 :: rest), []⟩ w') :
    Code.wp Try.prog reg29 Q ⟨List.toArray (s0 :: s1 :: s2 :: s3 :: s4 :: .pointer (some ⟨w.heap.size, 0, none⟩) :: s6 :: s7 :: s8 :: s9 :: s10 :: s11 :: s12 :: s13 :: s14 :: .pointer (some ⟨ab, 0, none⟩) :: s16 :: s17 :: .slice ma l1.length mc :: s19 :: .pointer (some ⟨yb, 0, none⟩) :: s21 :: s22 :: s23 :: s24 :: s25 :: s26 :: s27 :: s28 :: s29 :: s30 :: s31 :: s32 :: s33 :: s34 :: s35 :: s36 :: s37 :: s38 :: s39 :: s40 :: s41 :: s42 :: s43 :: s44 :: s45 :: s46 :: s47 :: s48 :: s49 :: s50 :: s51 :: s52 :: s53 :: s54 :: s55 :: s56 :: s57 :: s58 :: s59 :: s60 :: s61 :: s62 :: s63 :: s64 :: s65 :: s66 :: s67 :: s68 :: s69 :: s70 :: s71 :: s72 :: s73 :: s74 :: s75 :: s76 :: s77 :: s78 :: s79 :: s80 :: s81 :: s82 :: s83 :: s84 :: s85 :: s86 :: s87 :: s88 :: s89 :: s90 :: s91 :: s92 :: s93 :: s94 :: s95 :: s96 :: s97 :: s98 :: s99 :: s100 :: s101 :: s102 :: s103 :: s104 :: s105 :: s106 :: s107 :: s108 :: s109 :: s110 :: s111 :: s112 :: s113 :: s114 :: s115 :: s116 :: s117 :: s118 :: s119 :: s120 :: s121 :: s122 :: s123 :: s124 :: s125 :: s126 :: s127 :: s128 :: s129 :: s130 :: s131 :: s132 :: s133 :: s134 :: s135 :: s136 :: s137 :: s138 :: s139 :: s140 :: s141 :: s142 :: s143 :: s144 :: s145 :: s146 :: s147 :: s148 :: s149 :: s150 :: s151 :: s152 :: s153 :: s154 :: rest), []⟩ t3 := by
  conv => arg 2; whnf
  have Z0 : w.heap.size < t3.heap.size := (G3.lt 0 _ rfl _ (by simp [blkC])).1
  have Z1 : ab < t3.heap.size := (G3.lt 3 _ rfl _ (by simp [blkC])).1
  have Z2 : yb < t3.heap.size := (G3.lt 7 _ rfl _ (by simp [blkC])).1
  have P0 : P29 t3 w.heap.size ab yb c la lc m' := p29_of (G3.get 0 rfl) (G3.get 3 rfl) (G3.get 7 rfl)
  have r0 : ∀ w', P29 w' w.heap.size ab yb c la lc m' → w'.cell? ⟨w.heap.size, 0, none⟩ = some (.int .i64 c.c0) := fun _ p => p.c0
  have r1 : ∀ w', P29 w' w.heap.size ab yb c la lc m' → w'.cell? ⟨w.heap.size, 1, none⟩ = some (.int .i64 c.c1) := fun _ p => p.c1
  have r2 : ∀ w', P29 w' w.heap.size ab yb c la lc m' → w'.cell? ⟨w.heap.size, 2, none⟩ = some (.int .i64 c.c2) := fun _ p => p.c2
  have r3 : ∀ w', P29 w' w.heap.size ab yb c la lc m' → w'.cell? ⟨w.heap.size, 3, none⟩ = some (.int .i64 c.c3) := fun _ p => p.c3
  have r4 : ∀ w', P29 w' w.heap.size ab yb c la lc m' → w'.cell? ⟨w.heap.size, 4, none⟩ = some (.int .i64 c.c4) := fun _ p => p.c4
  have r5 : ∀ w', P29 w' w.heap.size ab yb c la lc m' → w'.cell? ⟨w.heap.size, 5, none⟩ = some (.int .i64 c.mr) := fun _ p => p.c5
  have r6 : ∀ w', P29 w' w.heap.size ab yb c la lc m' → w'.cell? ⟨w.heap.size, 6, none⟩ = some (.int .i64 c.mu) := fun _ p => p.c6
  have r7 : ∀ w', P29 w' w.heap.size ab yb c la lc m' → w'.cell? ⟨w.heap.size, 7, none⟩ = some (.int .i64 c.dq) := fun _ p => p.c7
  have r8 : ∀ w', P29 w' w.heap.size ab yb c la lc m' → w'.cell? ⟨w.heap.size, 8, none⟩ = some (.int .i64 c.ch) := fun _ p => p.c8
  have r9 : ∀ w', P29 w' w.heap.size ab yb c la lc m' → w'.cell? ⟨w.heap.size, 9, none⟩ = some (.int .i64 c.bf) := fun _ p => p.c9
  have r10 : ∀ w', P29 w' w.heap.size ab yb c la lc m' → w'.cell? ⟨w.heap.size, 10, none⟩ = some (.int .i64 c.rt) := fun _ p => p.c10
  have r11 : ∀ w', P29 w' w.heap.size ab yb c la lc m' → w'.cell? ⟨w.heap.size, 11, none⟩ = some (.int .i64 c.sw) := fun _ p => p.c11
  have r12 : ∀ w', P29 w' w.heap.size ab yb c la lc m' → w'.cell? ⟨ab, 0, none⟩ = some (.slice la c.things.length lc) := fun _ p => p.a0
  have r13 : ∀ w', P29 w' w.heap.size ab yb c la lc m' → w'.cell? ⟨ab, 1, none⟩ = some (.int .i64 c.mn) := fun _ p => p.a1
  have r14 : ∀ w', P29 w' w.heap.size ab yb c la lc m' → w'.cell? ⟨yb, 0, none⟩ = some (.int .i64 (m'.pc : Int)) := fun _ p => p.y0
  have r15 : ∀ w', P29 w' w.heap.size ab yb c la lc m' → w'.cell? ⟨yb, 1, none⟩ = some (.int .i64 m'.slots) := fun _ p => p.y1
  have r16 : ∀ w', P29 w' w.heap.size ab yb c la lc m' → w'.cell? ⟨yb, 2, none⟩ = some (.int .i64 m'.cls) := fun _ p => p.y2
  have r17 : ∀ w', P29 w' w.heap.size ab yb c la lc m' → w'.cell? ⟨yb, 3, none⟩ = some (.int .u64 m'.mark) := fun _ p => p.y3
  have r18 : ∀ w', P29 w' w.heap.size ab yb c la lc m' → w'.cell? ⟨yb, 4, none⟩ = some (.int .u64 m'.h) := fun _ p => p.y4
  have r19 : ∀ w', P29 w' w.heap.size ab yb c la lc m' → w'.cell? ⟨yb, 5, none⟩ = some (.int .u32 m'.link) := fun _ p => p.y5
  have r20 : ∀ w', P29 w' w.heap.size ab yb c la lc m' → w'.cell? ⟨yb, 6, none⟩ = some (.int .i64 m'.v) := fun _ p => p.y6
  have r21 : ∀ w', P29 w' w.heap.size ab yb c la lc m' → w'.cell? ⟨yb, 7, none⟩ = some (.int .i64 m'.tries) := fun _ p => p.y7
  have r22 : ∀ w', P29 w' w.heap.size ab yb c la lc m' → w'.cell? ⟨yb, 8, none⟩ = some (.int .i64 m'.i) := fun _ p => p.y8
  have r23 : ∀ w', P29 w' w.heap.size ab yb c la lc m' → w'.cell? ⟨yb, 9, none⟩ = some (.int .i64 m'.node) := fun _ p => p.y9
  have r24 : ∀ w', P29 w' w.heap.size ab yb c la lc m' → w'.cell? ⟨yb, 10, none⟩ = some (.int .i64 (hpCell m')) := fun _ p => p.y10
  have r25 : ∀ w', P29 w' w.heap.size ab yb c la lc m' → w'.cell? ⟨yb, 11, none⟩ = some (.int .i64 m'.e) := fun _ p => p.y11
  have r26 : ∀ w', P29 w' w.heap.size ab yb c la lc m' → w'.cell? ⟨yb, 12, none⟩ = some (.int .i64 m'.ek) := fun _ p => p.y12
  have r27 : ∀ w', P29 w' w.heap.size ab yb c la lc m' → w'.cell? ⟨yb, 13, none⟩ = some (.int .i64 0) := fun _ p => p.y13
  have r28 : ∀ w', P29 w' w.heap.size ab yb c la lc m' → w'.cell? ⟨yb, 14, none⟩ = some (.int .i64 m'.ea) := fun _ p => p.y14
  have r29 : ∀ w', P29 w' w.heap.size ab yb c la lc m' → w'.cell? ⟨yb, 15, none⟩ = some (.int .i64 m'.eb) := fun _ p => p.y15
  have r30 : ∀ w', P29 w' w.heap.size ab yb c la lc m' → w'.cell? ⟨yb, 16, none⟩ = some (.int .i64 0) := fun _ p => p.y16
  obtain ⟨V, hV⟩ : ∃ V, V = Value.agg #[.int .i64 (sy.pc : Int), .int .i64 sy.slots, .int .i64 sy.cls, .int .u64 sy.mark, .int .u64 sy.h, .int .u32 sy.link, .int .i64 sy.v, .int .i64 sy.tries, .int .i64 sy.i, .int .i64 sy.node, .int .i64 (hpCell sy), .int .i64 sy.e, .int .i64 sy.ek, .int .i64 0, .int .i64 sy.ea, .int .i64 sy.eb, .int .i64 0] := ⟨_, rfl⟩
  have HV := Lib.hid hV
  have hV1 : V.cells.size = 17 := by rw [hV]; rfl
  simp only [Value.cells] at hV1
  clear hV
  go_region_held3 (fun w' => P29 w' w.heap.size ab yb c la lc m') (first | (with_reducible exact PK3) | (with_reducible exact PK2) | (with_reducible exact PK2.far _ _ _ _ _ _ _ _ _ _ _ _ _ _ _ _ _ _ (by omega) (by omega) (by omega)) | (with_reducible exact PK2.alloc _ Y0 Y1 Y2) | (with_reducible exact PK1) | (with_reducible exact PK1.alloc _ X0 X1 X2) | (with_reducible exact P0) | (exact P0.drewN _) | (exact P0.drew) | (exact (P0.drewN _).alloc _ Z0 Z1 Z2) | (exact P0.drew.alloc _ Z0 Z1 Z2)) (first | (go_at_call 29; (first | (have S1 := RStep19_h K1 5 2 c.mn m' rfl rfl h hl1 ho ht hw1; rw [← HSX2.out, ← HSL2.out, ← HV.out] at S1; with_reducible refine S1.mono ?_; clear S1) | (have S1 := RStep19_h (K1.blkNew #[.int .i64 0, .int .i64 0, .int .i64 0, .int .u64 0, .int .u64 0, .int .u32 0, .int .i64 0, .int .i64 0, .int .i64 0, .int .i64 0, .int .i64 0, .int .i64 0, .int .i64 0, .int .i64 0, .int .i64 0, .int .i64 0, .int .i64 0] 59) 5 2 c.mn m' rfl rfl h hl1 ho ht hw1; rw [← HSX2.out, ← HSL2.out, ← HV.out] at S1; with_reducible refine S1.mono ?_; clear S1)); rintro e t5 ⟨mv', rfl, K2⟩; have Y0 : w.heap.size < t5.heap.size := (K2.lt 0 _ rfl _ (by simp [blkC])).1; have Y1 : ab < t5.heap.size := (K2.lt 3 _ rfl _ (by simp [blkC])).1; have Y2 : yb < t5.heap.size := (K2.lt 7 _ rfl _ (by simp [blkC])).1; have PK2 : P29 t5 w.heap.size ab yb c la lc m' := p29_of (K2.get 0 rfl) (K2.get 3 rfl) (K2.get 7 rfl); (first | (have K3 : Has w t5 ([blkC _ w.heap.size (cfgCells c) 24, mapC _ mb av rv c, ownT _ (.slice la c.things.length lc) c.things, blkC _ ab #[.slice la c.things.length lc, .int .i64 c.mn] 50, storeC _ sb sg sl sn, slC _ .u64 mv' sl, hpC _ xb mb sx] ++ [blkC _ yb #[.int .i64 (m'.pc : Int), .int .i64 m'.slots, .int .i64 m'.cls, .int .u64 m'.mark, .int .u64 m'.h, .int .u32 m'.link, .int .i64 m'.v, .int .i64 m'.tries, .int .i64 m'.i, .int .i64 m'.node, .int .i64 (hpCell m'), .int .i64 m'.e, .int .i64 m'.ek, .int .i64 0, .int .i64 m'.ea, .int .i64 m'.eb, .int .i64 0] 59, blkC _ _ #[.int .i64 0, .int .i64 0, .int .i64 0, .int .u64 0, .int .u64 0, .int .u32 0, .int .i64 0, .int .i64 0, .int .i64 0, .int .i64 0, .int .i64 0, .int .i64 0, .int .i64 0, .int .i64 0, .int .i64 0, .int .i64 0, .int .i64 0] 59]) := K2; obtain ⟨W9, HW9, e9⟩ := (K3.tlCells 1 rfl (.int .i64 (sy.pc : Int)) (.int .i64 sy.slots) (.int .i64 sy.cls) (.int .u64 sy.mark) (.int .u64 sy.h) (.int .u32 sy.link) (.int .i64 sy.v) (.int .i64 sy.tries) (.int .i64 sy.i) (.int .i64 sy.node) (.int .i64 (hpCell sy)) (.int .i64 sy.e) (.int .i64 sy.ek) (.int .i64 0) (.int .i64 sy.ea) (.int .i64 sy.eb) (.int .i64 0)).name; have hst := stV HV.out (row17 (K3.tl 1 rfl)) (by simp [Value.oneCell']); rw [← e9.out] at hst; simp only [Value.cells] at hst; have PK3 : P29 W9 w.heap.size ab yb c la lc m' := p29_of (HW9.get 0 rfl) (HW9.get 3 rfl) (HW9.get 7 rfl)) | (have K3 : Has w _ ([blkC _ w.heap.size (cfgCells c) 24, mapC _ mb av rv c, ownT _ (.slice la c.things.length lc) c.things, blkC _ ab #[.slice la c.things.length lc, .int .i64 c.mn] 50, storeC _ sb sg sl sn, slC _ .u64 mv' sl, hpC _ xb mb sx] ++ [blkC _ yb #[.int .i64 (m'.pc : Int), .int .i64 m'.slots, .int .i64 m'.cls, .int .u64 m'.mark, .int .u64 m'.h, .int .u32 m'.link, .int .i64 m'.v, .int .i64 m'.tries, .int .i64 m'.i, .int .i64 m'.node, .int .i64 (hpCell m'), .int .i64 m'.e, .int .i64 m'.ek, .int .i64 0, .int .i64 m'.ea, .int .i64 m'.eb, .int .i64 0] 59, blkC _ _ #[.int .i64 0, .int .i64 0, .int .i64 0, .int .u64 0, .int .u64 0, .int .u32 0, .int .i64 0, .int .i64 0, .int .i64 0, .int .i64 0, .int .i64 0, .int .i64 0, .int .i64 0, .int .i64 0, .int .i64 0, .int .i64 0, .int .i64 0] 59]) := K2.blkNew #[.int .i64 0, .int .i64 0, .int .i64 0, .int .u64 0, .int .u64 0, .int .u32 0, .int .i64 0, .int .i64 0, .int .i64 0, .int .i64 0, .int .i64 0, .int .i64 0, .int .i64 0, .int .i64 0, .int .i64 0, .int .i64 0, .int .i64 0] 59; obtain ⟨W9, HW9, e9⟩ := (K3.tlCells 1 rfl (.int .i64 (sy.pc : Int)) (.int .i64 sy.slots) (.int .i64 sy.cls) (.int .u64 sy.mark) (.int .u64 sy.h) (.int .u32 sy.link) (.int .i64 sy.v) (.int .i64 sy.tries) (.int .i64 sy.i) (.int .i64 sy.node) (.int .i64 (hpCell sy)) (.int .i64 sy.e) (.int .i64 sy.ek) (.int .i64 0) (.int .i64 sy.ea) (.int .i64 sy.eb) (.int .i64 0)).name; have hst := stV HV.out (row17 (K3.tl 1 rfl)) (by simp [Value.oneCell']); rw [← e9.out] at hst; simp only [Value.cells] at hst; have PK3 : P29 W9 w.heap.size ab yb c la lc m' := p29_of (HW9.get 0 rfl) (HW9.get 3 rfl) (HW9.get 7 rfl)))) | (go_at_call 23; refine (model19_c c _).mono ?_; rintro e t4 ⟨rfl, q4⟩; (first | have K1 := (G3.drewN _).up q4 | have K1 := ((G3.blkNew #[.int .i64 0, .int .i64 0, .int .i64 0, .int .u64 0, .int .u64 0, .int .u32 0, .int .i64 0, .int .i64 0, .int .i64 0, .int .i64 0, .int .i64 0, .int .i64 0, .int .i64 0, .int .i64 0, .int .i64 0, .int .i64 0, .int .i64 0] 59).drewN _).up q4); have X0 : w.heap.size < t4.heap.size := (K1.lt 0 _ rfl _ (by simp [blkC])).1; have X1 : ab < t4.heap.size := (K1.lt 3 _ rfl _ (by simp [blkC])).1; have X2 : yb < t4.heap.size := (K1.lt 7 _ rfl _ (by simp [blkC])).1; have PK1 : P29 t4 w.heap.size ab yb c la lc m' := p29_of (K1.get 0 rfl) (K1.get 3 rfl) (K1.get 7 rfl)))
  all_goals
    have K5 : Has w W9 [blkC _ w.heap.size (cfgCells c) 24, mapC _ mb av rv c, ownT _ (.slice la c.things.length lc) c.things, blkC _ ab #[.slice la c.things.length lc, .int .i64 c.mn] 50, storeC _ sb sg sl sn, slC _ .u64 mv' sl, hpC _ xb mb sx, blkC _ yb #[.int .i64 (m'.pc : Int), .int .i64 m'.slots, .int .i64 m'.cls, .int .u64 m'.mark, .int .u64 m'.h, .int .u32 m'.link, .int .i64 m'.v, .int .i64 m'.tries, .int .i64 m'.i, .int .i64 m'.node, .int .i64 (hpCell m'), .int .i64 m'.e, .int .i64 m'.ek, .int .i64 0, .int .i64 m'.ea, .int .i64 m'.eb, .int .i64 0] 59, blkC _ _ #[.int .i64 (sy.pc : Int), .int .i64 sy.slots, .int .i64 sy.cls, .int .u64 sy.mark, .int .u64 sy.h, .int .u32 sy.link, .int .i64 sy.v, .int .i64 sy.tries, .int .i64 sy.i, .int .i64 sy.node, .int .i64 (hpCell sy), .int .i64 sy.e, .int .i64 sy.ek, .int .i64 0, .int .i64 sy.ea, .int .i64 sy.eb, .int .i64 0] 59] := HW9
    exact hexit _ _ _ _ _ _ _ _ _ _ _ _ K5
end Go.Proofs.Ytmiaghbakdapbaa
