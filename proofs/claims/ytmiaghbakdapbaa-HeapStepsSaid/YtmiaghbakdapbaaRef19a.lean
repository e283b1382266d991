/- The reference's machine of layer 19: its values, New, room, rest. Condition: the configuration may be. -/
import Derived.Test.YtmiaghbakdapbaaAw19
import Derived.Test.YtmiaghbakdapbaaRef5
import Derived.Test.YtmiaghbakdapbaaRef6H
import Derived.Test.YtmiaghbakdapbaaRef2
import Derived.Deep.MidRow
import Derived.StillTailTactics
set_option linter.unusedVariables false
set_option linter.unusedSimpArgs false
namespace Go.Proofs.Ytmiaghbakdapbaa
open Go.ChangeShapes Go.WideShapes Go.ChangeAt Go.RowKit

structure Rm where
  pc : Int
  slots : Int
  cls : Int
  mark : Int
  h : Int
  link : Int
  v : Int
  tries : Int
  i : Int
  node : Int
  cell : Int
  e : Int
  ek : Int
  ea : Int
  eb : Int
def rmCells (m : Rm) : Array Value := #[.int .i64 m.pc, .int .i64 m.slots, .int .i64 m.cls, .int .u64 m.mark, .int .u64 m.h, .int .u32 m.link, .int .i64 m.v, .int .i64 m.tries, .int .i64 m.i, .int .i64 m.node, .int .i64 m.cell, .int .i64 m.e, .int .i64 m.ek, .int .i64 0, .int .i64 m.ea, .int .i64 m.eb, .int .i64 0]
def rmV (m : Rm) : Value := .agg (rmCells m)
def rmC (n0 b : Nat) (m : Rm) : Chunk n0 := blkC n0 b (rmCells m) 59
def rm0 : Rm := ⟨0, 0, 0, 0, 0, 0, 0, 0, 0, 0, 0, 0, 0, 0, 0⟩

/-- The cells of a machine's block. -/
structure Row17 (w : World) (b : Nat) (x0 x1 x2 x3 x4 x5 x6 x7 x8 x9 x10 x11 x12 x13 x14 x15 x16 : Value) : Prop where
  c0 : w.cell? ⟨b, 0, none⟩ = some x0
  c1 : w.cell? ⟨b, 1, none⟩ = some x1
  c2 : w.cell? ⟨b, 2, none⟩ = some x2
  c3 : w.cell? ⟨b, 3, none⟩ = some x3
  c4 : w.cell? ⟨b, 4, none⟩ = some x4
  c5 : w.cell? ⟨b, 5, none⟩ = some x5
  c6 : w.cell? ⟨b, 6, none⟩ = some x6
  c7 : w.cell? ⟨b, 7, none⟩ = some x7
  c8 : w.cell? ⟨b, 8, none⟩ = some x8
  c9 : w.cell? ⟨b, 9, none⟩ = some x9
  c10 : w.cell? ⟨b, 10, none⟩ = some x10
  c11 : w.cell? ⟨b, 11, none⟩ = some x11
  c12 : w.cell? ⟨b, 12, none⟩ = some x12
  c13 : w.cell? ⟨b, 13, none⟩ = some x13
  c14 : w.cell? ⟨b, 14, none⟩ = some x14
  c15 : w.cell? ⟨b, 15, none⟩ = some x15
  c16 : w.cell? ⟨b, 16, none⟩ = some x16
  fz : ∀ o, w.frozen? ⟨b, o, none⟩ = false
theorem row17 {w : World} {b : Nat} {x0 x1 x2 x3 x4 x5 x6 x7 x8 x9 x10 x11 x12 x13 x14 x15 x16 : Value} {T : TypeId} (h : w.heap[b]? = some (.cells #[x0, x1, x2, x3, x4, x5, x6, x7, x8, x9, x10, x11, x12, x13, x14, x15, x16] T (0, 0))) : Row17 w b x0 x1 x2 x3 x4 x5 x6 x7 x8 x9 x10 x11 x12 x13 x14 x15 x16 :=
  ⟨blk_at h 0 rfl, blk_at h 1 rfl, blk_at h 2 rfl, blk_at h 3 rfl, blk_at h 4 rfl, blk_at h 5 rfl, blk_at h 6 rfl, blk_at h 7 rfl, blk_at h 8 rfl, blk_at h 9 rfl, blk_at h 10 rfl, blk_at h 11 rfl, blk_at h 12 rfl, blk_at h 13 rfl, blk_at h 14 rfl, blk_at h 15 rfl, blk_at h 16 rfl, blk_frozen h⟩

theorem tl_get {α : Type} (cs bs : List α) (k : Nat) : (cs ++ bs)[cs.length + k]? = bs[k]? := by
  rw [List.getElem?_append_right (by omega)]; congr 1; omega
theorem tl_set {α : Type} (cs bs : List α) (k : Nat) (y : α) : (cs ++ bs).set (cs.length + k) y = cs ++ bs.set k y := by
  rw [List.set_append_right _ _ (by omega)]; congr 2; omega
theorem hd_get {α : Type} {cs : List α} {i : Nat} {x : α} (h : cs[i]? = some x) (bs : List α) : (cs ++ bs)[i]? = some x := by
  rw [List.getElem?_append_left (List.getElem?_eq_some_iff.1 h).1]; exact h
theorem hd_set {α : Type} {cs : List α} {i : Nat} {x : α} (h : cs[i]? = some x) (bs : List α) (y : α) : (cs ++ bs).set i y = cs.set i y ++ bs :=
  List.set_append_left _ _ (List.getElem?_eq_some_iff.1 h).1
theorem Has.untail {w0 w : World} : ∀ (bs cs : List (Chunk w0.heap.size)), Has w0 w (cs ++ bs) → Has w0 w cs
  | [], cs, H => by simpa using H
  | b :: bs, cs, H => by
    have e : cs ++ b :: bs = (cs ++ [b]) ++ bs := by simp
    rw [e] at H
    exact (Has.untail bs (cs ++ [b]) H).front
theorem Has.tl {w0 w : World} {cs bs : List (Chunk w0.heap.size)} (H : Has w0 w (cs ++ bs)) (k : Nat) {x : Chunk w0.heap.size} (hk : bs[k]? = some x) : x.holds w := H.get (cs.length + k) (by rw [tl_get]; exact hk)
/-- One cell of a block of the tail. -/
theorem Has.tlSet {w0 w : World} {cs bs : List (Chunk w0.heap.size)} (H : Has w0 w (cs ++ bs)) (k : Nat) {b : Nat} {xs : Array Value} {T : TypeId} (hk : bs[k]? = some (blkC _ b xs T)) (o : Nat) (v : Value) : Has w0 (w.setCell ⟨b, o, none⟩ v) (cs ++ bs.set k (blkC _ b (xs.set! o v) T)) := by
  have := H.blkSet (cs.length + k) (by rw [tl_get]; exact hk) o v
  rw [tl_set] at this
  exact this
/-- All cells of a machine's block, one behind the other. -/
theorem Has.tlAll {w0 w : World} {cs bs : List (Chunk w0.heap.size)} (H : Has w0 w (cs ++ bs)) (k : Nat) {b : Nat} {x0 x1 x2 x3 x4 x5 x6 x7 x8 x9 x10 x11 x12 x13 x14 x15 x16 : Value} {T : TypeId} (hk : bs[k]? = some (blkC _ b #[x0, x1, x2, x3, x4, x5, x6, x7, x8, x9, x10, x11, x12, x13, x14, x15, x16] T)) (v0 v1 v2 v3 v4 v5 v6 v7 v8 v9 v10 v11 v12 v13 v14 v15 v16 : Value) :
    Has w0 (((((((((((((((((w.setCell ⟨b, 0, none⟩ v0).setCell ⟨b, 1, none⟩ v1).setCell ⟨b, 2, none⟩ v2).setCell ⟨b, 3, none⟩ v3).setCell ⟨b, 4, none⟩ v4).setCell ⟨b, 5, none⟩ v5).setCell ⟨b, 6, none⟩ v6).setCell ⟨b, 7, none⟩ v7).setCell ⟨b, 8, none⟩ v8).setCell ⟨b, 9, none⟩ v9).setCell ⟨b, 10, none⟩ v10).setCell ⟨b, 11, none⟩ v11).setCell ⟨b, 12, none⟩ v12).setCell ⟨b, 13, none⟩ v13).setCell ⟨b, 14, none⟩ v14).setCell ⟨b, 15, none⟩ v15).setCell ⟨b, 16, none⟩ v16) (cs ++ bs.set k (blkC _ b #[v0, v1, v2, v3, v4, v5, v6, v7, v8, v9, v10, v11, v12, v13, v14, v15, v16] T)) := by
  have S0 := H
  have q0 := S0.tlSet k hk 0 v0
  have S1 : Has w0 _ (cs ++ bs.set k (blkC _ b #[v0, x1, x2, x3, x4, x5, x6, x7, x8, x9, x10, x11, x12, x13, x14, x15, x16] T)) := q0
  have q1 := S1.tlSet k (List.getElem?_set_self (List.getElem?_eq_some_iff.1 hk).1) 1 v1
  rw [List.set_set] at q1
  have S2 : Has w0 _ (cs ++ bs.set k (blkC _ b #[v0, v1, x2, x3, x4, x5, x6, x7, x8, x9, x10, x11, x12, x13, x14, x15, x16] T)) := q1
  have q2 := S2.tlSet k (List.getElem?_set_self (List.getElem?_eq_some_iff.1 hk).1) 2 v2
  rw [List.set_set] at q2
  have S3 : Has w0 _ (cs ++ bs.set k (blkC _ b #[v0, v1, v2, x3, x4, x5, x6, x7, x8, x9, x10, x11, x12, x13, x14, x15, x16] T)) := q2
  have q3 := S3.tlSet k (List.getElem?_set_self (List.getElem?_eq_some_iff.1 hk).1) 3 v3
  rw [List.set_set] at q3
  have S4 : Has w0 _ (cs ++ bs.set k (blkC _ b #[v0, v1, v2, v3, x4, x5, x6, x7, x8, x9, x10, x11, x12, x13, x14, x15, x16] T)) := q3
  have q4 := S4.tlSet k (List.getElem?_set_self (List.getElem?_eq_some_iff.1 hk).1) 4 v4
  rw [List.set_set] at q4
  have S5 : Has w0 _ (cs ++ bs.set k (blkC _ b #[v0, v1, v2, v3, v4, x5, x6, x7, x8, x9, x10, x11, x12, x13, x14, x15, x16] T)) := q4
  have q5 := S5.tlSet k (List.getElem?_set_self (List.getElem?_eq_some_iff.1 hk).1) 5 v5
  rw [List.set_set] at q5
  have S6 : Has w0 _ (cs ++ bs.set k (blkC _ b #[v0, v1, v2, v3, v4, v5, x6, x7, x8, x9, x10, x11, x12, x13, x14, x15, x16] T)) := q5
  have q6 := S6.tlSet k (List.getElem?_set_self (List.getElem?_eq_some_iff.1 hk).1) 6 v6
  rw [List.set_set] at q6
  have S7 : Has w0 _ (cs ++ bs.set k (blkC _ b #[v0, v1, v2, v3, v4, v5, v6, x7, x8, x9, x10, x11, x12, x13, x14, x15, x16] T)) := q6
  have q7 := S7.tlSet k (List.getElem?_set_self (List.getElem?_eq_some_iff.1 hk).1) 7 v7
  rw [List.set_set] at q7
  have S8 : Has w0 _ (cs ++ bs.set k (blkC _ b #[v0, v1, v2, v3, v4, v5, v6, v7, x8, x9, x10, x11, x12, x13, x14, x15, x16] T)) := q7
  have q8 := S8.tlSet k (List.getElem?_set_self (List.getElem?_eq_some_iff.1 hk).1) 8 v8
  rw [List.set_set] at q8
  have S9 : Has w0 _ (cs ++ bs.set k (blkC _ b #[v0, v1, v2, v3, v4, v5, v6, v7, v8, x9, x10, x11, x12, x13, x14, x15, x16] T)) := q8
  have q9 := S9.tlSet k (List.getElem?_set_self (List.getElem?_eq_some_iff.1 hk).1) 9 v9
  rw [List.set_set] at q9
  have S10 : Has w0 _ (cs ++ bs.set k (blkC _ b #[v0, v1, v2, v3, v4, v5, v6, v7, v8, v9, x10, x11, x12, x13, x14, x15, x16] T)) := q9
  have q10 := S10.tlSet k (List.getElem?_set_self (List.getElem?_eq_some_iff.1 hk).1) 10 v10
  rw [List.set_set] at q10
  have S11 : Has w0 _ (cs ++ bs.set k (blkC _ b #[v0, v1, v2, v3, v4, v5, v6, v7, v8, v9, v10, x11, x12, x13, x14, x15, x16] T)) := q10
  have q11 := S11.tlSet k (List.getElem?_set_self (List.getElem?_eq_some_iff.1 hk).1) 11 v11
  rw [List.set_set] at q11
  have S12 : Has w0 _ (cs ++ bs.set k (blkC _ b #[v0, v1, v2, v3, v4, v5, v6, v7, v8, v9, v10, v11, x12, x13, x14, x15, x16] T)) := q11
  have q12 := S12.tlSet k (List.getElem?_set_self (List.getElem?_eq_some_iff.1 hk).1) 12 v12
  rw [List.set_set] at q12
  have S13 : Has w0 _ (cs ++ bs.set k (blkC _ b #[v0, v1, v2, v3, v4, v5, v6, v7, v8, v9, v10, v11, v12, x13, x14, x15, x16] T)) := q12
  have q13 := S13.tlSet k (List.getElem?_set_self (List.getElem?_eq_some_iff.1 hk).1) 13 v13
  rw [List.set_set] at q13
  have S14 : Has w0 _ (cs ++ bs.set k (blkC _ b #[v0, v1, v2, v3, v4, v5, v6, v7, v8, v9, v10, v11, v12, v13, x14, x15, x16] T)) := q13
  have q14 := S14.tlSet k (List.getElem?_set_self (List.getElem?_eq_some_iff.1 hk).1) 14 v14
  rw [List.set_set] at q14
  have S15 : Has w0 _ (cs ++ bs.set k (blkC _ b #[v0, v1, v2, v3, v4, v5, v6, v7, v8, v9, v10, v11, v12, v13, v14, x15, x16] T)) := q14
  have q15 := S15.tlSet k (List.getElem?_set_self (List.getElem?_eq_some_iff.1 hk).1) 15 v15
  rw [List.set_set] at q15
  have S16 : Has w0 _ (cs ++ bs.set k (blkC _ b #[v0, v1, v2, v3, v4, v5, v6, v7, v8, v9, v10, v11, v12, v13, v14, v15, x16] T)) := q15
  have q16 := S16.tlSet k (List.getElem?_set_self (List.getElem?_eq_some_iff.1 hk).1) 16 v16
  rw [List.set_set] at q16
  have S17 : Has w0 _ (cs ++ bs.set k (blkC _ b #[v0, v1, v2, v3, v4, v5, v6, v7, v8, v9, v10, v11, v12, v13, v14, v15, v16] T)) := q16
  exact S17
theorem Has.tlCells {w0 w : World} {cs bs : List (Chunk w0.heap.size)} (H : Has w0 w (cs ++ bs)) (k : Nat) {b : Nat} {x0 x1 x2 x3 x4 x5 x6 x7 x8 x9 x10 x11 x12 x13 x14 x15 x16 : Value} {T : TypeId} (hk : bs[k]? = some (blkC _ b #[x0, x1, x2, x3, x4, x5, x6, x7, x8, x9, x10, x11, x12, x13, x14, x15, x16] T)) (v0 v1 v2 v3 v4 v5 v6 v7 v8 v9 v10 v11 v12 v13 v14 v15 v16 : Value) : Has w0 (w.setCells b 0 [v0, v1, v2, v3, v4, v5, v6, v7, v8, v9, v10, v11, v12, v13, v14, v15, v16]) (cs ++ bs.set k (blkC _ b #[v0, v1, v2, v3, v4, v5, v6, v7, v8, v9, v10, v11, v12, v13, v14, v15, v16] T)) := H.tlAll k hk v0 v1 v2 v3 v4 v5 v6 v7 v8 v9 v10 v11 v12 v13 v14 v15 v16
theorem mLoad {w : World} {b : Nat} {x0 x1 x2 x3 x4 x5 x6 x7 x8 x9 x10 x11 x12 x13 x14 x15 x16 : Value} (h : Row17 w b x0 x1 x2 x3 x4 x5 x6 x7 x8 x9 x10 x11 x12 x13 x14 x15 x16) : Sem.run Try.prog (Instr.loadAt 59 (.pointer (some ⟨b, 0, none⟩))) w = Result.ok (.agg #[x0, x1, x2, x3, x4, x5, x6, x7, x8, x9, x10, x11, x12, x13, x14, x15, x16]) w :=
  run_loadAt_mid w b 0 59 [x0, x1, x2, x3, x4, x5, x6, x7, x8, x9, x10, x11, x12, x13, x14, x15, x16] _ (by
    intro j v hv
    match j, hv with
    | 0, hv => cases hv; exact h.c0
    | 1, hv => cases hv; exact h.c1
    | 2, hv => cases hv; exact h.c2
    | 3, hv => cases hv; exact h.c3
    | 4, hv => cases hv; exact h.c4
    | 5, hv => cases hv; exact h.c5
    | 6, hv => cases hv; exact h.c6
    | 7, hv => cases hv; exact h.c7
    | 8, hv => cases hv; exact h.c8
    | 9, hv => cases hv; exact h.c9
    | 10, hv => cases hv; exact h.c10
    | 11, hv => cases hv; exact h.c11
    | 12, hv => cases hv; exact h.c12
    | 13, hv => cases hv; exact h.c13
    | 14, hv => cases hv; exact h.c14
    | 15, hv => cases hv; exact h.c15
    | 16, hv => cases hv; exact h.c16
    | _ + 17, hv => cases hv) Try.underlying59 rfl (by kernel_rfl)
theorem mStore {w : World} {b : Nat} {x0 x1 x2 x3 x4 x5 x6 x7 x8 x9 x10 x11 x12 x13 x14 x15 x16 : Value} (h : Row17 w b x0 x1 x2 x3 x4 x5 x6 x7 x8 x9 x10 x11 x12 x13 x14 x15 x16) (a : Array Value) (hn : a.size = 17) (ha : a.all (·.oneCell') = true) : Sem.run Try.prog (Instr.storeAt 59 (.pointer (some ⟨b, 0, none⟩)) (.agg a)) w = Result.ok () (w.setCells b 0 a.toList) :=
  run_storeAt_mid w b 0 59 a (by
    rw [hn]
    intro j hj
    rw [Nat.zero_add]
    refine ⟨?_, h.fz j⟩
    match j, hj with
    | 0, _ => rw [h.c0]; rfl
    | 1, _ => rw [h.c1]; rfl
    | 2, _ => rw [h.c2]; rfl
    | 3, _ => rw [h.c3]; rfl
    | 4, _ => rw [h.c4]; rfl
    | 5, _ => rw [h.c5]; rfl
    | 6, _ => rw [h.c6]; rfl
    | 7, _ => rw [h.c7]; rfl
    | 8, _ => rw [h.c8]; rfl
    | 9, _ => rw [h.c9]; rfl
    | 10, _ => rw [h.c10]; rfl
    | 11, _ => rw [h.c11]; rfl
    | 12, _ => rw [h.c12]; rfl
    | 13, _ => rw [h.c13]; rfl
    | 14, _ => rw [h.c14]; rfl
    | 15, _ => rw [h.c15]; rfl
    | 16, _ => rw [h.c16]; rfl
    | n + 17, hj => exact absurd hj (by omega)) (by rw [hn]; kernel_rfl) ha


theorem wpl_getM {ops : Array Oper} {rest : List Oper} {op : Oper} {a : Act} {Q : Exit → Act → World → Prop} {w : World} {b : Nat} {x0 x1 x2 x3 x4 x5 x6 x7 x8 x9 x10 x11 x12 x13 x14 x15 x16 : Value} (R : Row17 w b x0 x1 x2 x3 x4 x5 x6 x7 x8 x9 x10 x11 x12 x13 x14 x15 x16) (hgd : op.guard = none) (x : Operand) (ho : op.op = .load 59 x) (hx : a.eval x = .pointer (some ⟨b, 0, none⟩))
    (h : wpList Try.prog ops Q rest (a.put op.dst (.agg #[x0, x1, x2, x3, x4, x5, x6, x7, x8, x9, x10, x11, x12, x13, x14, x15, x16])) w) : wpList Try.prog ops Q (op :: rest) a w :=
  wpList_load_mid hgd 59 x ho b 0 hx [x0, x1, x2, x3, x4, x5, x6, x7, x8, x9, x10, x11, x12, x13, x14, x15, x16] _ (by
    intro j v hv
    match j, hv with
    | 0, hv => cases hv; exact R.c0
    | 1, hv => cases hv; exact R.c1
    | 2, hv => cases hv; exact R.c2
    | 3, hv => cases hv; exact R.c3
    | 4, hv => cases hv; exact R.c4
    | 5, hv => cases hv; exact R.c5
    | 6, hv => cases hv; exact R.c6
    | 7, hv => cases hv; exact R.c7
    | 8, hv => cases hv; exact R.c8
    | 9, hv => cases hv; exact R.c9
    | 10, hv => cases hv; exact R.c10
    | 11, hv => cases hv; exact R.c11
    | 12, hv => cases hv; exact R.c12
    | 13, hv => cases hv; exact R.c13
    | 14, hv => cases hv; exact R.c14
    | 15, hv => cases hv; exact R.c15
    | 16, hv => cases hv; exact R.c16
    | _ + 17, hv => cases hv) Try.underlying59 rfl (by kernel_rfl) h
theorem wpl_putM {ops : Array Oper} {rest : List Oper} {op : Oper} {a : Act} {Q : Exit → Act → World → Prop} {w0 w : World} {cs bs : List (Chunk w0.heap.size)} (H : Has w0 w (cs ++ bs)) (k : Nat) {b : Nat} {x0 x1 x2 x3 x4 x5 x6 x7 x8 x9 x10 x11 x12 x13 x14 x15 x16 : Value} (hk : bs[k]? = some (blkC _ b #[x0, x1, x2, x3, x4, x5, x6, x7, x8, x9, x10, x11, x12, x13, x14, x15, x16] 59)) (hgd : op.guard = none) (x y : Operand) (ho : op.op = .store 59 x y) (hx : a.eval x = .pointer (some ⟨b, 0, none⟩)) {v0 v1 v2 v3 v4 v5 v6 v7 v8 v9 v10 v11 v12 v13 v14 v15 v16 : Value} (hy : a.eval y = .agg #[v0, v1, v2, v3, v4, v5, v6, v7, v8, v9, v10, v11, v12, v13, v14, v15, v16])
    (h1 : (#[v0, v1, v2, v3, v4, v5, v6, v7, v8, v9, v10, v11, v12, v13, v14, v15, v16] : Array Value).all (·.oneCell') = true)
    (h : ∀ w', Has w0 w' (cs ++ bs.set k (blkC _ b #[v0, v1, v2, v3, v4, v5, v6, v7, v8, v9, v10, v11, v12, v13, v14, v15, v16] 59)) → wpList Try.prog ops Q rest (a.put op.dst undef) w') : wpList Try.prog ops Q (op :: rest) a w :=
  wpList_store_mid hgd 59 x y ho b 0 #[v0, v1, v2, v3, v4, v5, v6, v7, v8, v9, v10, v11, v12, v13, v14, v15, v16] hx hy (by
    have R := row17 (H.tl k hk)
    intro j hj
    rw [Nat.zero_add]
    refine ⟨?_, R.fz j⟩
    match j, hj with
    | 0, _ => rw [R.c0]; rfl
    | 1, _ => rw [R.c1]; rfl
    | 2, _ => rw [R.c2]; rfl
    | 3, _ => rw [R.c3]; rfl
    | 4, _ => rw [R.c4]; rfl
    | 5, _ => rw [R.c5]; rfl
    | 6, _ => rw [R.c6]; rfl
    | 7, _ => rw [R.c7]; rfl
    | 8, _ => rw [R.c8]; rfl
    | 9, _ => rw [R.c9]; rfl
    | 10, _ => rw [R.c10]; rfl
    | 11, _ => rw [R.c11]; rfl
    | 12, _ => rw [R.c12]; rfl
    | 13, _ => rw [R.c13]; rfl
    | 14, _ => rw [R.c14]; rfl
    | 15, _ => rw [R.c15]; rfl
    | 16, _ => rw [R.c16]; rfl
    | n + 17, hj => exact absurd hj (by simp)) (by kernel_rfl) h1 (h _ (H.tlCells k hk v0 v1 v2 v3 v4 v5 v6 v7 v8 v9 v10 v11 v12 v13 v14 v15 v16))
theorem lvM {w : World} {b : Nat} {x0 x1 x2 x3 x4 x5 x6 x7 x8 x9 x10 x11 x12 x13 x14 x15 x16 : Value} (R : Row17 w b x0 x1 x2 x3 x4 x5 x6 x7 x8 x9 x10 x11 x12 x13 x14 x15 x16) : (loadVar 59 ⟨b, 0, none⟩).run Try.prog w = .ok (.agg #[x0, x1, x2, x3, x4, x5, x6, x7, x8, x9, x10, x11, x12, x13, x14, x15, x16]) w :=
  run_loadVar_mid w b 0 59 [x0, x1, x2, x3, x4, x5, x6, x7, x8, x9, x10, x11, x12, x13, x14, x15, x16] _ (by
    intro j v hv
    match j, hv with
    | 0, hv => cases hv; exact R.c0
    | 1, hv => cases hv; exact R.c1
    | 2, hv => cases hv; exact R.c2
    | 3, hv => cases hv; exact R.c3
    | 4, hv => cases hv; exact R.c4
    | 5, hv => cases hv; exact R.c5
    | 6, hv => cases hv; exact R.c6
    | 7, hv => cases hv; exact R.c7
    | 8, hv => cases hv; exact R.c8
    | 9, hv => cases hv; exact R.c9
    | 10, hv => cases hv; exact R.c10
    | 11, hv => cases hv; exact R.c11
    | 12, hv => cases hv; exact R.c12
    | 13, hv => cases hv; exact R.c13
    | 14, hv => cases hv; exact R.c14
    | 15, hv => cases hv; exact R.c15
    | 16, hv => cases hv; exact R.c16
    | _ + 17, hv => cases hv) Try.underlying59 rfl (by kernel_rfl)
theorem still_getM {ops : Array Oper} {rest : List Oper} {op : Oper} {a : Act} {w : World} {b : Nat} {x0 x1 x2 x3 x4 x5 x6 x7 x8 x9 x10 x11 x12 x13 x14 x15 x16 : Value} {Q : Act → Prop} (R : Row17 w b x0 x1 x2 x3 x4 x5 x6 x7 x8 x9 x10 x11 x12 x13 x14 x15 x16) (hgd : op.guard = none) (x : Operand) (ho : op.op = .load 59 x) (hx : a.eval x = .pointer (some ⟨b, 0, none⟩))
    (h : wpStill Try.prog ops w Q rest (a.put op.dst (.agg #[x0, x1, x2, x3, x4, x5, x6, x7, x8, x9, x10, x11, x12, x13, x14, x15, x16]))) : wpStill Try.prog ops w Q (op :: rest) a := by
  refine wpStill_step (fun K hK => ?_)
  have lv := lvM R
  have hw : Region.wanted op (yielded ops a.tmps) = true := by unfold Region.wanted; rw [hgd]
  rw [if_pos hw]
  unfold Oper.still
  simp only [ho, hx, Instr.loadAt, Instr.sureAddr, Sem.run_bind, Sem.run_pure, Result.andThen_ok, lv, execOp]
  rw [Oper.stillUpon_value]
  exact hK _ h
theorem resM1 {f : Func} {t : Array Value} {w : World} {b q : Nat} {x0 x1 x2 x3 x4 x5 x6 x7 x8 x9 x10 x11 x12 x13 x14 x15 x16 : Value} (R : Row17 w b x0 x1 x2 x3 x4 x5 x6 x7 x8 x9 x10 x11 x12 x13 x14 x15 x16) (hf : f.results = #[.cell q 59]) (hq : t.getD q undef = .pointer (some ⟨b, 0, none⟩)) : (results f t).run Try.prog w = .ok (.agg #[x0, x1, x2, x3, x4, x5, x6, x7, x8, x9, x10, x11, x12, x13, x14, x15, x16]) w := by
  have lv := lvM R
  unfold results
  rw [hf]
  simp only [Array.getD_eq_getD_getElem?] at hq
  simp [hq, lv, asAddr]
theorem resM2 {f : Func} {t : Array Value} {w : World} {b p q : Nat} {u : Value} {x0 x1 x2 x3 x4 x5 x6 x7 x8 x9 x10 x11 x12 x13 x14 x15 x16 : Value} (R : Row17 w b x0 x1 x2 x3 x4 x5 x6 x7 x8 x9 x10 x11 x12 x13 x14 x15 x16) (hf : f.results = #[.tmp p, .cell q 59]) (hp : t.getD p undef = u) (hq : t.getD q undef = .pointer (some ⟨b, 0, none⟩)) : (results f t).run Try.prog w = .ok (.tuple #[u, .agg #[x0, x1, x2, x3, x4, x5, x6, x7, x8, x9, x10, x11, x12, x13, x14, x15, x16]]) w := by
  have lv := lvM R
  unfold results
  rw [hf]
  simp only [Array.getD_eq_getD_getElem?] at hp hq
  simp [hp, hq, lv, asAddr]


--[NEW
set_option maxRecDepth 100000 in
theorem RNew19_c (sl mk : Int) (w : World) : Calls Try.prog 26 #[.int .i64 sl, .int .u64 mk] w fun e w' => e = .returned (rmV (if sOf sl < 0 then { rm0 with e := 21 } else { rm0 with pc := 1, slots := sl, cls := sOf sl, mark := mk })) ∧ Below w.heap.size w w' := by
  obtain ⟨K, hK⟩ : ∃ K, K = sOf sl := ⟨_, rfl⟩
  rw [← hK]
  have HK := Lib.hid hK
  clear hK
  by_cases hk : K < 0
  · rw [if_pos hk]
    go_enter Try.func26, Try.ntmps26
    have G0 : Has w _ ([] ++ [blkC _ w.heap.size #[.int .i64 0, .int .i64 0, .int .i64 0, .int .u64 0, .int .u64 0, .int .u32 0, .int .i64 0, .int .i64 0, .int .i64 0, .int .i64 0, .int .i64 0, .int .i64 0, .int .i64 0, .int .i64 0, .int .i64 0, .int .i64 0, .int .i64 0] 59]) := (Has.nil w).blkNew #[.int .i64 0, .int .i64 0, .int .i64 0, .int .u64 0, .int .u64 0, .int .u32 0, .int .i64 0, .int .i64 0, .int .i64 0, .int .i64 0, .int .i64 0, .int .i64 0, .int .i64 0, .int .i64 0, .int .i64 0, .int .i64 0, .int .i64 0] 59
    go_upto_region 1 with (fail)
    obtain ⟨W, HW, eW⟩ := G0.name
    rw [← eW.out]
    clear G0 eW
    go_wp2_with fail
    refine (ROf_c sl _).mono ?_
    rw [← HK.out]
    rintro e w1 ⟨rfl, dn, rfl⟩
    have G1 := HW.drewN dn
    go_wp2_with (refine wpl_putM G1 0 rfl rfl (.tmp 4) _ rfl rfl rfl (by simp [Value.oneCell']) ?_; intro w2 G2)
    have R := row17 (G2.tl 0 rfl)
    exact bodyPost_ret (resM1 R Try.results26 rfl) rfl ⟨rfl, G2.below⟩
  · rw [if_neg hk]
    go_enter Try.func26, Try.ntmps26
    have G0 : Has w _ ([] ++ [blkC _ w.heap.size #[.int .i64 0, .int .i64 0, .int .i64 0, .int .u64 0, .int .u64 0, .int .u32 0, .int .i64 0, .int .i64 0, .int .i64 0, .int .i64 0, .int .i64 0, .int .i64 0, .int .i64 0, .int .i64 0, .int .i64 0, .int .i64 0, .int .i64 0] 59]) := (Has.nil w).blkNew #[.int .i64 0, .int .i64 0, .int .i64 0, .int .u64 0, .int .u64 0, .int .u32 0, .int .i64 0, .int .i64 0, .int .i64 0, .int .i64 0, .int .i64 0, .int .i64 0, .int .i64 0, .int .i64 0, .int .i64 0, .int .i64 0, .int .i64 0] 59
    go_upto_region 1 with (fail)
    obtain ⟨W, HW, eW⟩ := G0.name
    rw [← eW.out]
    clear G0 eW
    go_wp2_with fail
    refine (ROf_c sl _).mono ?_
    rw [← HK.out]
    rintro e w1 ⟨rfl, dn, rfl⟩
    have G1 := HW.drewN dn
    go_wp2_with (refine wpl_putM G1 0 rfl rfl (.tmp 4) _ rfl rfl rfl (by simp [Value.oneCell']) ?_; intro w2 G2)
    have R := row17 (G2.tl 0 rfl)
    exact bodyPost_ret (resM1 R Try.results26 rfl) rfl ⟨rfl, G2.below⟩
--]NEW

--[ROOM
set_option maxRecDepth 100000 in
theorem RRoom19_h {w0 w : World} {cs : List (Chunk w0.heap.size)} (H : Has w0 w cs) (c : Cfg) (h : CfgOk c) (v : Int) :
    Calls Try.prog 85 #[cfgV c, .int .i64 v] w fun e w' => e = .returned (.int .i64 (c.roomAt v)) ∧ Has w0 w' cs := by
  have hrl := rooms_len (c := c)
  have hnd := (cfg_bd h).nd
  unfold cfgV cfgCells
  go_enter Try.func85, Try.ntmps85
  have G0 := (Has.nil w).blkNew (cfgCells c) 52
  go_wp2_with fail
  refine (RRooms_h G0 c).mono ?_
  rintro e w1 ⟨rv, rfl, G1⟩
  obtain ⟨ra, rc, rfl⟩ := own_is (G1.get 1 rfl)
  by_cases hv : 1 ≤ v ∧ v ≤ c.nd
  · obtain ⟨hv1, hv2⟩ := hv
    have hl1 : ¬ v < 1 := by omega
    have hl2 : ¬ (c.rooms.length : Int) < v := by omega
    obtain ⟨g, off, hgg, -, -, -, hcell, -⟩ := own_atV (G1.get 1 rfl) (by omega)
    subst hgg
    have hx := room_get v ⟨hv1, hv2⟩
    have hc := hcell (v.toNat - 1) (.int .i64 (c.roomAt v)) (by rw [List.getElem?_map, hx]; rfl)
    have e1 : IntKind.i64.wrap (v - 1) = v - 1 := wrapi64_id _ (by omega) (by omega)
    have e2 : wrap64 (v - 1) = v - 1 := wrap64_id19 _ (by omega) (by omega)
    have e3 : (v - 1).toNat = v.toNat - 1 := by omega
    have e4 : v - 1 < (c.rooms.length : Int) := by omega
    have e5 : 0 ≤ v - 1 := by omega
    have e6 : v.toNat - 1 < c.rooms.length := by omega
    clear hcell hx hrl
    go_wp2_with fail
    go_ret
    exact ⟨rfl, H.up G1.below⟩
  · have hn : c.roomAt v = 0 := roomAt_no v hv
    have HN := Lib.hid hn
    clear hn
    by_cases hl1 : v < 1
    · go_wp2_with fail
      go_ret
      exact ⟨ret_int HN.out.symm, H.up G1.below⟩
    · have hl2 : (c.rooms.length : Int) < v := by omega
      go_wp2_with fail
      go_ret
      exact ⟨ret_int HN.out.symm, H.up G1.below⟩
--]ROOM
end Go.Proofs.Ytmiaghbakdapbaa
