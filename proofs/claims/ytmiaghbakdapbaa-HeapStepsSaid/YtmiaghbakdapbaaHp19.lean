/- The machine that makes a node (package heap): each method does what the chapter tells. Conditions: the Store, the machine and the map are parts, the configuration may be; words are words. -/
import Derived.Test.YtmiaghbakdapbaaHp19p
import Derived.Test.YtmiaghbakdapbaaFirst5
import Derived.Test.YtmiaghbakdapbaaCellsH
import Derived.Test.YtmiaghbakdapbaaFunc
import Derived.Deep.RegionHeld3
import Derived.Deep.DeepCutAuto
import Derived.Deep.CutBlock
set_option linter.unusedVariables false
set_option linter.unusedSimpArgs false
namespace Go.Proofs.Ytmiaghbakdapbaa
open Go.ChangeShapes Go.WideShapes Go.ChangeAt Go.RowKit

def hpNext (xb : Nat) : Nat → Value
  | 0 => .nilFunc
  | 1 => .func (.func 59) #[.pointer (some ⟨xb, 0, none⟩)] #[]
  | 2 => .func (.func 76) #[.pointer (some ⟨xb, 0, none⟩)] #[]
  | 3 => .func (.func 92) #[.pointer (some ⟨xb, 0, none⟩)] #[]
  | 4 => .func (.func 99) #[.pointer (some ⟨xb, 0, none⟩)] #[]
  | 5 => .func (.func 108) #[.pointer (some ⟨xb, 0, none⟩)] #[]
  | 6 => .func (.func 109) #[.pointer (some ⟨xb, 0, none⟩)] #[]
  | _ => .func (.func 111) #[.pointer (some ⟨xb, 0, none⟩)] #[]

def hpCells (xb mb : Nat) (m : Hp) (nx : Value) : Array Value := #[.pointer (some ⟨mb, 0, none⟩), .int .i64 m.slots, .int .i64 m.cls, .int .u64 m.mark, .int .u64 m.h, .int .u32 m.link, .int .i64 m.v, .bool m.took, .int .i64 m.tries, .int .i64 m.i, .int .i64 m.node, .int .i64 m.e, .int .i64 m.ek, .int .i64 0, .int .i64 m.ea, .int .i64 m.eb, .int .i64 0, nx]
def hpB (n0 xb mb : Nat) (m : Hp) (nx : Value) : Chunk n0 := blkC n0 xb (hpCells xb mb m nx) 99
def hpC (n0 xb mb : Nat) (m : Hp) : Chunk n0 := hpB n0 xb mb m (hpNext xb m.pc)

theorem set_get19 {α : Type} {l : List α} {i j : Nat} {x : α} (h : l[j]? = some x) (y : α) (hne : i ≠ j) : (l.set i y)[j]? = some x := by
  rw [List.getElem?_set_ne hne]; exact h
theorem lset_same19 {α : Type} {l : List α} {j : Nat} {x : α} (h : l[j]? = some x) (y : α) : (l.set j y)[j]? = some y := by
  rw [List.getElem?_set_self (List.getElem?_eq_some_iff.1 h).1]
theorem lset_is19 {α : Type} {l : List α} {j : Nat} {x : α} (h : l[j]? = some x) : l.set j x = l := by
  apply List.ext_getElem?
  intro k
  by_cases hk : j = k
  · subst hk; rw [List.getElem?_set_self (List.getElem?_eq_some_iff.1 h).1, h]
  · rw [List.getElem?_set_ne hk]

theorem sss19 {α : Type} {cs : List α} {i j : Nat} (h : i ≠ j) (A S B : α) : ((cs.set j A).set i S).set j B = (cs.set i S).set j B := by
  rw [List.set_comm _ _ (Ne.symm h), List.set_set]
theorem ss19 {α : Type} {cs : List α} {i j : Nat} {A : α} (h : i ≠ j) (hj : cs[j]? = some A) (S : α) : cs.set i S = (cs.set i S).set j A := by
  rw [lset_is19 (set_get19 hj S h)]

theorem hpNext_form (xb : Nat) (k : Nat) : ∃ f b cp, hpNext xb k = .func f b cp ∨ hpNext xb k = .nilFunc := by
  match k with
  | 0 => exact ⟨.func 0, #[], #[], .inr rfl⟩
  | 1 => exact ⟨_, _, _, .inl rfl⟩
  | 2 => exact ⟨_, _, _, .inl rfl⟩
  | 3 => exact ⟨_, _, _, .inl rfl⟩
  | 4 => exact ⟨_, _, _, .inl rfl⟩
  | 5 => exact ⟨_, _, _, .inl rfl⟩
  | 6 => exact ⟨_, _, _, .inl rfl⟩
  | _ + 7 => exact ⟨_, _, _, .inl rfl⟩
theorem hpRest_form (xb : Nat) (c : Cfg) (v i : Int) : ∃ fb, hpNext xb (hpRest c v i) = .func (.func fb) #[.pointer (some ⟨xb, 0, none⟩)] #[] := by
  unfold hpRest
  cases decide (i < c.roomAt v) with
  | true => exact ⟨_, rfl⟩
  | false => exact ⟨_, rfl⟩

/-- The cells of a machine's block. -/
structure HpRow (w : World) (xb mb : Nat) (s k mk hh lk v : Int) (tk : Bool) (tr ii nd e ek ea eb : Int) (nx : Value) : Prop where
  c0 : w.cell? ⟨xb, 0, none⟩ = some (.pointer (some ⟨mb, 0, none⟩))
  c1 : w.cell? ⟨xb, 1, none⟩ = some (.int .i64 s)
  c2 : w.cell? ⟨xb, 2, none⟩ = some (.int .i64 k)
  c3 : w.cell? ⟨xb, 3, none⟩ = some (.int .u64 mk)
  c4 : w.cell? ⟨xb, 4, none⟩ = some (.int .u64 hh)
  c5 : w.cell? ⟨xb, 5, none⟩ = some (.int .u32 lk)
  c6 : w.cell? ⟨xb, 6, none⟩ = some (.int .i64 v)
  c7 : w.cell? ⟨xb, 7, none⟩ = some (.bool tk)
  c8 : w.cell? ⟨xb, 8, none⟩ = some (.int .i64 tr)
  c9 : w.cell? ⟨xb, 9, none⟩ = some (.int .i64 ii)
  c10 : w.cell? ⟨xb, 10, none⟩ = some (.int .i64 nd)
  c11 : w.cell? ⟨xb, 11, none⟩ = some (.int .i64 e)
  c12 : w.cell? ⟨xb, 12, none⟩ = some (.int .i64 ek)
  c13 : w.cell? ⟨xb, 13, none⟩ = some (.int .i64 0)
  c14 : w.cell? ⟨xb, 14, none⟩ = some (.int .i64 ea)
  c15 : w.cell? ⟨xb, 15, none⟩ = some (.int .i64 eb)
  c16 : w.cell? ⟨xb, 16, none⟩ = some (.int .i64 0)
  c17 : w.cell? ⟨xb, 17, none⟩ = some nx
  fz : ∀ o, w.frozen? ⟨xb, o, none⟩ = false
theorem hpRow {w : World} {xb mb : Nat} {s k mk hh lk v : Int} {tk : Bool} {tr ii nd e ek ea eb : Int} {pc : Nat} {nx : Value} (h : w.heap[xb]? = some (.cells (hpCells xb mb ⟨s, k, mk, hh, lk, v, tk, tr, ii, nd, e, ek, ea, eb, pc⟩ nx) 99 (0, 0))) : HpRow w xb mb s k mk hh lk v tk tr ii nd e ek ea eb nx :=
  ⟨blk_at h 0 rfl, blk_at h 1 rfl, blk_at h 2 rfl, blk_at h 3 rfl, blk_at h 4 rfl, blk_at h 5 rfl, blk_at h 6 rfl, blk_at h 7 rfl, blk_at h 8 rfl, blk_at h 9 rfl, blk_at h 10 rfl, blk_at h 11 rfl, blk_at h 12 rfl, blk_at h 13 rfl, blk_at h 14 rfl, blk_at h 15 rfl, blk_at h 16 rfl, blk_at h 17 rfl, blk_frozen h⟩

theorem hpEnd_h {w0 w : World} {cs : List (Chunk w0.heap.size)} (H : Has w0 w cs) (j : Nat) {xb mb : Nat} (m : Hp) {nx : Value} (hj : cs[j]? = some (hpB _ xb mb m nx)) (k : Int) :
    Calls Try.prog 77 #[.pointer (some ⟨xb, 0, none⟩), .int .i64 k] w fun e w' => e = .returned (.tuple #[]) ∧ Has w0 w' (cs.set j (hpB _ xb mb { m with e := k } .nilFunc)) := by
  obtain ⟨s, k0, mk, hh, lk, v, tk, tr, ii, nd, e, ek, ea, eb, pc⟩ := m
  obtain ⟨-, -, -, -, -, -, -, -, -, -, -, c11, -, -, -, -, -, c17, fz⟩ := hpRow (H.get j hj)
  have hj' : cs[j]? = some (blkC _ xb (hpCells xb mb ⟨s, k0, mk, hh, lk, v, tk, tr, ii, nd, e, ek, ea, eb, pc⟩ nx) 99) := hj
  have HJ := Lib.hid hj'
  clear hj hj'
  go_enter Try.func77, Try.ntmps77
  go_wp2_with fail
  go_end0
  have H1 := H.blkSet j HJ.out 11 (.int .i64 k)
  have H2 := H1.blkSet j (lset_same19 HJ.out _) 17 .nilFunc
  rw [List.set_set] at H2
  exact ⟨rfl, H2⟩

section
variable {w0 w : World} {cs : List (Chunk w0.heap.size)} (H : Has w0 w cs) (i j q : Nat) {sb g xb mb : Nat} {l : List Int} {n : Int} {av rv : Value} {c : Cfg} (hi : cs[i]? = some (storeC _ sb g l n)) (hq : cs[q]? = some (mapC _ mb av rv c)) (hij : i ≠ j) (hqj : q ≠ j) (h : CfgOk c)
include H hi hq hij hqj h

set_option maxRecDepth 100000 in
set_option maxHeartbeats 1000000 in
theorem hpLook_h (s k mk hh lk v : Int) (tk : Bool) (tr ii nd e : Int) (hj : cs[j]? = some (hpB _ xb mb ⟨s, k, mk, hh, lk, v, tk, tr, ii, nd, e, 0, 0, 0, 1⟩ (hpNext xb 1))) (hw : 0 ≤ mld l (c.headAt k) ∧ mld l (c.headAt k) < 18446744073709551616) :
    Calls Try.prog 59 #[.pointer (some ⟨xb, 0, none⟩), .pointer (some ⟨sb, 0, none⟩)] w fun r w' => r = .returned (.tuple #[]) ∧
      Has w0 w' ((cs.set i (storeC _ sb g l (wrap64 (n + 1)))).set j (hpC _ xb mb ⟨s, k, mk, (mld l (c.headAt k)), lk, (mld l (c.headAt k) % 4294967296), tk, wrap64 (tr + 1), ii, nd, hpE (mld l (c.headAt k) % 4294967296 == 0) 22 e, 0, 0, 0, hpPc (mld l (c.headAt k) % 4294967296 == 0) 0 2⟩)) := by
  obtain ⟨c0, c1, c2, c3, c4, c5, c6, c7, c8, c9, c10, c11, c12, c13, c14, c15, c16, c17, fc⟩ := hpRow (H.get j hj)
  have IJ := Lib.hid hij
  have hj' : cs[j]? = some (blkC _ xb (hpCells xb mb ⟨s, k, mk, hh, lk, v, tk, tr, ii, nd, e, 0, 0, 0, 1⟩ (hpNext xb 1)) 99) := hj
  have HJ := Lib.hid hj'
  have HI := Lib.hid hi
  have HQ := Lib.hid hq
  have QJ := Lib.hid hqj
  obtain ⟨K, hK⟩ : ∃ K, K = mld l (c.headAt k) := ⟨_, rfl⟩
  rw [← hK] at hw ⊢
  have HK := Lib.hid hK
  obtain ⟨hw0, hw1⟩ := hw
  clear hK
  clear hj hj' hi hq hij hqj
  go_enter Try.func59, Try.ntmps59
  go_upto_region 1 with (fail)
  have G1 := H.blkSet j HJ.out 8 (.int .i64 (wrap64 (tr + 1)))
  obtain ⟨W1, HW1, eW1⟩ := G1.name
  rw [← eW1.out]
  have HW2 : Has w0 W1 (cs.set j (hpB _ xb mb ⟨s, k, mk, hh, lk, v, tk, wrap64 (tr + 1), ii, nd, e, 0, 0, 0, 1⟩ (hpNext xb 1))) := HW1
  clear eW1 G1 HW1 c0 c1 c2 c3 c4 c5 c6 c7 c8 c9 c10 c11 c12 c13 c14 c15 c16 c17 fc
  have hi2 : (cs.set j (hpB _ xb mb ⟨s, k, mk, hh, lk, v, tk, wrap64 (tr + 1), ii, nd, e, 0, 0, 0, 1⟩ (hpNext xb 1)))[i]? = some (storeC _ sb g l n) := set_get19 HI.out _ (Ne.symm IJ.out)
  have hq2 : (cs.set j (hpB _ xb mb ⟨s, k, mk, hh, lk, v, tk, wrap64 (tr + 1), ii, nd, e, 0, 0, 0, 1⟩ (hpNext xb 1)))[q]? = some (mapC _ mb av rv c) := set_get19 HQ.out _ (Ne.symm QJ.out)
  obtain ⟨c0, c1, c2, c3, c4, c5, c6, c7, c8, c9, c10, c11, c12, c13, c14, c15, c16, c17, fc⟩ := hpRow (HW2.get j (lset_same19 HJ.out _))
  go_region_held3 (fun w' => w'.cell? ⟨xb, 0, none⟩ = some (.pointer (some ⟨mb, 0, none⟩)) ∧ w'.cell? ⟨xb, 2, none⟩ = some (.int .i64 k)) (refine ⟨?_, ?_⟩ <;> (first | (with_reducible assumption) | (simp only [cell_drewN1, cell_drew1]; with_reducible assumption) | (exact set_cell1 _ (by first | (with_reducible assumption) | (simp only [cell_drewN1, cell_drew1]; with_reducible assumption)) (by decide)))) (first | (go_at_call 19; refine (Head_q ((HW2.drewN _).mAt q hq2 h) k).mono ?_; rintro r w1 ⟨rfl, d1, rfl⟩) | (go_at_call 18; refine (Load_h (HW2.drewN _) i hi2 _).mono ?_; rw [← HK.out]; rintro r w2 ⟨rfl, H2⟩; obtain ⟨y0, y1, y2, y3, y4, y5, y6, y7, y8, y9, y10, y11, y12, y13, y14, y15, y16, y17, fy⟩ := hpRow (H2.get j (set_get19 (lset_same19 HJ.out _) _ IJ.out))))
  have hj2 : ((cs.set j (hpB _ xb mb ⟨s, k, mk, hh, lk, v, tk, wrap64 (tr + 1), ii, nd, e, 0, 0, 0, 1⟩ (hpNext xb 1))).set i (storeC _ sb g l (wrap64 (n + 1))))[j]? = some (blkC _ xb (hpCells xb mb ⟨s, k, mk, hh, lk, v, tk, wrap64 (tr + 1), ii, nd, e, 0, 0, 0, 1⟩ (hpNext xb 1)) 99) := set_get19 (lset_same19 HJ.out _) _ IJ.out
  have H3 := H2.blkSet j hj2 4 (.int .u64 K)
  rw [sss19 IJ.out] at H3
  go_upto_region 2 with (fail)
  obtain ⟨W3, HW3, eW3⟩ := H3.name
  rw [← eW3.out]
  have HW4 : Has w0 W3 ((cs.set i (storeC _ sb g l (wrap64 (n + 1)))).set j (hpB _ xb mb ⟨s, k, mk, K, lk, v, tk, wrap64 (tr + 1), ii, nd, e, 0, 0, 0, 1⟩ (hpNext xb 1))) := HW3
  clear eW3 H3 HW3 H2 HW2 hj2 c0 c1 c2 c3 c4 c5 c6 c7 c8 c9 c10 c11 c12 c13 c14 c15 c16 c17 fc y0 y1 y2 y3 y4 y5 y6 y7 y8 y9 y10 y11 y12 y13 y14 y15 y16 y17 fy
  have hj4 := lset_same19 (set_get19 HJ.out (storeC _ sb g l (wrap64 (n + 1))) IJ.out) (blkC _ xb (hpCells xb mb ⟨s, k, mk, K, lk, v, tk, wrap64 (tr + 1), ii, nd, e, 0, 0, 0, 1⟩ (hpNext xb 1)) 99)
  obtain ⟨c0, c1, c2, c3, c4, c5, c6, c7, c8, c9, c10, c11, c12, c13, c14, c15, c16, c17, fc⟩ := hpRow (HW4.get j hj4)
  go_wp2_with fail
  refine (Split_c K hw0 hw1 _).mono ?_
  rintro r w3 ⟨rfl, d3, rfl⟩
  have G5 := (HW4.drewN d3).blkSet j hj4 6 (.int .i64 (K % 4294967296))
  rw [List.set_set] at G5
  have G6 := G5.blkSet j (lset_same19 (set_get19 HJ.out _ IJ.out) _) 17 (hpNext xb 2)
  rw [List.set_set] at G6
  simp only [hpNext] at G6
  by_cases hz : K % 4294967296 = 0
  · have E0 : (K % 4294967296 == 0) = true := by simpa using hz
    have E1 := Lib.hid E0
    clear hz
    go_wp2_with fail
    refine (hpEnd_h G6 j ⟨s, k, mk, K, lk, K % 4294967296, tk, wrap64 (tr + 1), ii, nd, e, 0, 0, 0, 1⟩ (lset_same19 (set_get19 HJ.out _ IJ.out) _) 22).mono ?_
    rintro r w6 ⟨rfl, G7⟩
    rw [List.set_set] at G7
    go_wp2_with fail
    go_end0
    rw [E1.out]
    exact ⟨rfl, G7⟩
  · have E0 : (K % 4294967296 == 0) = false := by simpa using hz
    have E1 := Lib.hid E0
    clear hz
    go_wp2_with fail
    go_end0
    rw [E1.out]
    exact ⟨rfl, G6⟩
set_option maxRecDepth 100000 in
set_option maxHeartbeats 1000000 in
theorem hpLinks_h (s k mk hh lk v : Int) (tk : Bool) (tr ii nd e : Int) (hj : cs[j]? = some (hpB _ xb mb ⟨s, k, mk, hh, lk, v, tk, tr, ii, nd, e, 0, 0, 0, 2⟩ (hpNext xb 2))) :
    Calls Try.prog 76 #[.pointer (some ⟨xb, 0, none⟩), .pointer (some ⟨sb, 0, none⟩)] w fun r w' => r = .returned (.tuple #[]) ∧
      Has w0 w' ((cs.set i (storeC _ sb g l (wrap64 (n + 1)))).set j (hpC _ xb mb ⟨s, k, mk, hh, mld l (c.nodeAt v 3) % 4294967296, v, tk, tr, ii, nd, e, 0, 0, 0, 3⟩)) := by
  obtain ⟨c0, c1, c2, c3, c4, c5, c6, c7, c8, c9, c10, c11, c12, c13, c14, c15, c16, c17, fc⟩ := hpRow (H.get j hj)
  have IJ := Lib.hid hij
  have hj' : cs[j]? = some (blkC _ xb (hpCells xb mb ⟨s, k, mk, hh, lk, v, tk, tr, ii, nd, e, 0, 0, 0, 2⟩ (hpNext xb 2)) 99) := hj
  have HJ := Lib.hid hj'
  have HI := Lib.hid hi
  have HQ := Lib.hid hq
  have QJ := Lib.hid hqj
  obtain ⟨K, hK⟩ : ∃ K, K = mld l (c.nodeAt v 3) := ⟨_, rfl⟩
  rw [← hK]
  have HK := Lib.hid hK
  clear hK
  clear hj hj' hi hq hij hqj
  go_enter Try.func76, Try.ntmps76
  go_wp2_with fail
  go_region_held3 (fun w' => w'.cell? ⟨xb, 0, none⟩ = some (.pointer (some ⟨mb, 0, none⟩)) ∧ w'.cell? ⟨xb, 6, none⟩ = some (.int .i64 v)) (refine ⟨?_, ?_⟩ <;> (first | (with_reducible assumption) | (simp only [cell_drewN1, cell_drew1]; with_reducible assumption) | (exact set_cell1 _ (by first | (with_reducible assumption) | (simp only [cell_drewN1, cell_drew1]; with_reducible assumption)) (by decide)))) (first | (go_at_call 43; refine (Next_q ((H.drewN _).mAt q HQ.out h) v).mono ?_; rintro r w1 ⟨rfl, d1, rfl⟩) | (go_at_call 18; refine (Load_h (H.drewN _) i HI.out _).mono ?_; rw [← HK.out]; rintro r w2 ⟨rfl, H2⟩; obtain ⟨y0, y1, y2, y3, y4, y5, y6, y7, y8, y9, y10, y11, y12, y13, y14, y15, y16, y17, fy⟩ := hpRow (H2.get j (set_get19 HJ.out _ IJ.out))))
  have hj2 := set_get19 HJ.out (storeC w0.heap.size sb g l (wrap64 (n + 1))) IJ.out
  go_wp2_with fail
  go_end0
  have H3 := H2.blkSet j hj2 5 (.int .u32 (K % 4294967296))
  have H4 := H3.blkSet j (lset_same19 hj2 _) 17 (hpNext xb 3)
  rw [List.set_set] at H4
  exact ⟨rfl, H4⟩
set_option maxRecDepth 100000 in
set_option maxHeartbeats 1000000 in
theorem hpSwap_h (s k mk hh lk v : Int) (tk : Bool) (tr ii nd e : Int) (hj : cs[j]? = some (hpB _ xb mb ⟨s, k, mk, hh, lk, v, tk, tr, ii, nd, e, 0, 0, 0, 3⟩ (hpNext xb 3))) (hw : 0 ≤ hh ∧ hh < 18446744073709551616 ∧ 0 ≤ lk ∧ lk < 4294967296) :
    Calls Try.prog 92 #[.pointer (some ⟨xb, 0, none⟩), .pointer (some ⟨sb, 0, none⟩)] w fun r w' => r = .returned (.tuple #[]) ∧
      Has w0 w' ((cs.set i (storeC _ sb g (mswap l (c.headAt k) hh (wTurn hh lk)) (wrap64 (n + 1)))).set j (hpC _ xb mb ⟨s, k, mk, hh, lk, v, (mswapped l (c.headAt k) hh), tr, ii, nd, hpE (mswapped l (c.headAt k) hh) e (hpE (tr == 4) 23 e), 0, 0, 0, hpPc (mswapped l (c.headAt k) hh) 4 (hpPc (tr == 4) 0 1)⟩)) := by
  obtain ⟨c0, c1, c2, c3, c4, c5, c6, c7, c8, c9, c10, c11, c12, c13, c14, c15, c16, c17, fc⟩ := hpRow (H.get j hj)
  have IJ := Lib.hid hij
  have hj' : cs[j]? = some (blkC _ xb (hpCells xb mb ⟨s, k, mk, hh, lk, v, tk, tr, ii, nd, e, 0, 0, 0, 3⟩ (hpNext xb 3)) 99) := hj
  have HJ := Lib.hid hj'
  have HI := Lib.hid hi
  have HQ := Lib.hid hq
  have QJ := Lib.hid hqj
  obtain ⟨B, hB⟩ : ∃ B, B = mswapped l (c.headAt k) hh := ⟨_, rfl⟩
  rw [← hB]
  have HB := Lib.hid hB
  clear hB
  clear hj hj' hi hq hij hqj
  go_enter Try.func92, Try.ntmps92
  go_wp2_with fail
  go_region_held3 (fun w' => w'.cell? ⟨xb, 0, none⟩ = some (.pointer (some ⟨mb, 0, none⟩)) ∧ w'.cell? ⟨xb, 2, none⟩ = some (.int .i64 k) ∧ w'.cell? ⟨xb, 4, none⟩ = some (.int .u64 hh) ∧ w'.cell? ⟨xb, 5, none⟩ = some (.int .u32 lk)) (refine ⟨?_, ?_, ?_, ?_⟩ <;> (first | (with_reducible assumption) | (simp only [cell_drewN1, cell_drew1]; with_reducible assumption) | (exact set_cell1 _ (by first | (with_reducible assumption) | (simp only [cell_drewN1, cell_drew1]; with_reducible assumption)) (by decide)))) (first | (go_at_call 19; refine (Head_q ((H.drewN _).mAt q HQ.out h) k).mono ?_; rintro r w1 ⟨rfl, d1, rfl⟩) | (go_at_call 98; refine (Turn_c hh lk hw.1 hw.2.1 hw.2.2.1 hw.2.2.2 _).mono ?_; rintro r w1 ⟨rfl, d2, rfl⟩) | (go_at_call 95; refine (Swap_h (H.drewN _) i HI.out _ _ _).mono ?_; rw [← HB.out]; rintro r w2 ⟨rfl, H2⟩; obtain ⟨y0, y1, y2, y3, y4, y5, y6, y7, y8, y9, y10, y11, y12, y13, y14, y15, y16, y17, fy⟩ := hpRow (H2.get j (set_get19 HJ.out _ IJ.out))))
  all_goals (have hj2 := set_get19 HJ.out (storeC w0.heap.size sb g (mswap l (c.headAt k) hh (wTurn hh lk)) (wrap64 (n + 1))) IJ.out)
  all_goals (have H3 := H2.blkSet j hj2 7 (.bool B))
  all_goals
    cases B with
    | true =>
      have H4 := H3.blkSet j (lset_same19 hj2 _) 17 (hpNext xb 4)
      rw [List.set_set] at H4
      go_wp2_with fail
      go_end0
      exact ⟨rfl, H4⟩
    | false =>
      by_cases ht : tr = 4
      · subst ht
        go_wp2_with fail
        refine (hpEnd_h H3 j ⟨s, k, mk, hh, lk, v, false, 4, ii, nd, e, 0, 0, 0, 3⟩ (nx := hpNext xb 3) (lset_same19 hj2 _) 23).mono ?_
        rintro r w6 ⟨rfl, G7⟩
        rw [List.set_set] at G7
        go_wp2_with fail
        go_end0
        exact ⟨rfl, G7⟩
      · have htb : (tr == 4) = false := by simpa using ht
        have E2 := Lib.hid htb
        have H4 := H3.blkSet j (lset_same19 hj2 _) 17 (hpNext xb 1)
        rw [List.set_set] at H4
        go_wp2_with fail
        go_end0
        rw [E2.out]
        exact ⟨rfl, H4⟩
omit hij hi hqj in
set_option maxRecDepth 100000 in
theorem hpRest_q (s k mk hh lk v : Int) (tk : Bool) (tr ii nd e : Int) (pc : Nat) {nx : Value} (hj : cs[j]? = some (hpB _ xb mb ⟨s, k, mk, hh, lk, v, tk, tr, ii, nd, e, 0, 0, 0, pc⟩ nx)) :
    Calls Try.prog 103 #[.pointer (some ⟨xb, 0, none⟩)] w fun r w' => r = .returned (hpNext xb (hpRest c v ii)) ∧ ∃ n, w' = w.drewN n := by
  obtain ⟨c0, c1, c2, c3, c4, c5, c6, c7, c8, c9, c10, c11, c12, c13, c14, c15, c16, c17, fc⟩ := hpRow (H.get j hj)
  have HQ := Lib.hid hq
  obtain ⟨R, hR⟩ : ∃ R, R = c.roomAt v := ⟨_, rfl⟩
  have HR := Lib.hid hR
  unfold hpRest
  rw [← hR]
  clear hj hq hR
  by_cases hlt : ii < R
  · rw [show decide (ii < R) = true by simpa using hlt]
    go_enter Try.func103, Try.ntmps103
    go_wp2_with fail
    go_region_held3 (fun w' => w'.cell? ⟨xb, 0, none⟩ = some (.pointer (some ⟨mb, 0, none⟩)) ∧ w'.cell? ⟨xb, 6, none⟩ = some (.int .i64 v) ∧ w'.cell? ⟨xb, 9, none⟩ = some (.int .i64 ii)) (refine ⟨?_, ?_, ?_⟩ <;> (first | (with_reducible assumption) | (simp only [cell_drewN1, cell_drew1]; with_reducible assumption) | (exact set_cell1 _ (by first | (with_reducible assumption) | (simp only [cell_drewN1, cell_drew1]; with_reducible assumption)) (by decide)))) (first | (go_at_call 36; refine (Room_q ((H.drewN _).mAt q HQ.out h) v).mono ?_; rw [← HR.out]; rintro r w1 ⟨rfl, d1, rfl⟩))
    go_wp2_with fail
    go_ret
    exact ⟨rfl, _, rfl⟩
  · rw [show decide (ii < R) = false by simpa using hlt]
    go_enter Try.func103, Try.ntmps103
    go_wp2_with fail
    go_region_held3 (fun w' => w'.cell? ⟨xb, 0, none⟩ = some (.pointer (some ⟨mb, 0, none⟩)) ∧ w'.cell? ⟨xb, 6, none⟩ = some (.int .i64 v) ∧ w'.cell? ⟨xb, 9, none⟩ = some (.int .i64 ii)) (refine ⟨?_, ?_, ?_⟩ <;> (first | (with_reducible assumption) | (simp only [cell_drewN1, cell_drew1]; with_reducible assumption) | (exact set_cell1 _ (by first | (with_reducible assumption) | (simp only [cell_drewN1, cell_drew1]; with_reducible assumption)) (by decide)))) (first | (go_at_call 36; refine (Room_q ((H.drewN _).mAt q HQ.out h) v).mono ?_; rw [← HR.out]; rintro r w1 ⟨rfl, d1, rfl⟩))
    go_wp2_with fail
    go_ret
    exact ⟨rfl, _, rfl⟩

set_option maxRecDepth 100000 in
set_option maxHeartbeats 1000000 in
theorem hpHeader_h (s k mk hh lk v : Int) (tk : Bool) (tr ii nd e : Int) (hj : cs[j]? = some (hpB _ xb mb ⟨s, k, mk, hh, lk, v, tk, tr, ii, nd, e, 0, 0, 0, 4⟩ (hpNext xb 4))) (hiq : i ≠ q) :
    Calls Try.prog 99 #[.pointer (some ⟨xb, 0, none⟩), .pointer (some ⟨sb, 0, none⟩)] w fun r w' => r = .returned (.tuple #[]) ∧
      Has w0 w' ((cs.set i (storeC _ sb g (mput l (c.nodeAt v 0) (IntKind.u64.wrap s)) (wrap64 (n + 1)))).set j (hpC _ xb mb ⟨s, k, mk, hh, lk, v, tk, tr, ii, nd, e, 0, 0, 0, hpRest c v ii⟩)) := by
  obtain ⟨c0, c1, c2, c3, c4, c5, c6, c7, c8, c9, c10, c11, c12, c13, c14, c15, c16, c17, fc⟩ := hpRow (H.get j hj)
  have IJ := Lib.hid hij
  have hj' : cs[j]? = some (blkC _ xb (hpCells xb mb ⟨s, k, mk, hh, lk, v, tk, tr, ii, nd, e, 0, 0, 0, 4⟩ (hpNext xb 4)) 99) := hj
  have HJ := Lib.hid hj'
  have HI := Lib.hid hi
  have HQ := Lib.hid hq
  have QJ := Lib.hid hqj
  clear hj hj' hi hq hij hqj
  go_enter Try.func99, Try.ntmps99
  go_wp2_with fail
  go_region_held3 (fun w' => w'.cell? ⟨xb, 0, none⟩ = some (.pointer (some ⟨mb, 0, none⟩)) ∧ w'.cell? ⟨xb, 1, none⟩ = some (.int .i64 s) ∧ w'.cell? ⟨xb, 6, none⟩ = some (.int .i64 v)) (refine ⟨?_, ?_, ?_⟩ <;> (first | (with_reducible assumption) | (simp only [cell_drewN1, cell_drew1]; with_reducible assumption) | (exact set_cell1 _ (by first | (with_reducible assumption) | (simp only [cell_drewN1, cell_drew1]; with_reducible assumption)) (by decide)))) (first | (go_at_call 41; refine (Header_q ((H.drewN _).mAt q HQ.out h) v).mono ?_; rintro r w1 ⟨rfl, d1, rfl⟩) | (go_at_call 20; refine (Put_h (H.drewN _) i HI.out _ _).mono ?_; rintro r w2 ⟨rfl, H2⟩; obtain ⟨y0, y1, y2, y3, y4, y5, y6, y7, y8, y9, y10, y11, y12, y13, y14, y15, y16, y17, fy⟩ := hpRow (H2.get j (set_get19 HJ.out _ IJ.out))))
  have hj2 := set_get19 HJ.out (storeC w0.heap.size sb g (mput l (c.nodeAt v 0) (IntKind.u64.wrap s)) (wrap64 (n + 1))) IJ.out
  go_wp2_with fail
  refine (hpRest_q H2 j q (set_get19 HQ.out _ hiq) h s k mk hh lk v tk tr ii nd e 4 hj2).mono ?_
  obtain ⟨fb, hfb⟩ := hpRest_form xb c v ii
  rw [hfb]
  have HF := Lib.hid hfb
  clear hfb
  rintro r w3 ⟨rfl, d3, rfl⟩
  go_wp2_with fail
  go_end0
  have H4 := (H2.drewN d3).blkSet j hj2 17 (hpNext xb (hpRest c v ii))
  rw [HF.out] at H4
  refine ⟨rfl, ?_⟩
  unfold hpC
  dsimp only
  rw [HF.out]
  exact H4
set_option maxRecDepth 100000 in
set_option maxHeartbeats 1000000 in
theorem hpSlot_h (s k mk hh lk v : Int) (tk : Bool) (tr ii nd e : Int) (hj : cs[j]? = some (hpB _ xb mb ⟨s, k, mk, hh, lk, v, tk, tr, ii, nd, e, 0, 0, 0, 5⟩ (hpNext xb 5))) (hiq : i ≠ q) :
    Calls Try.prog 108 #[.pointer (some ⟨xb, 0, none⟩), .pointer (some ⟨sb, 0, none⟩)] w fun r w' => r = .returned (.tuple #[]) ∧
      Has w0 w' ((cs.set i (storeC _ sb g (mput l (c.slotAt v ii) 0) (wrap64 (n + 1)))).set j (hpC _ xb mb ⟨s, k, mk, hh, lk, v, tk, tr, wrap64 (ii + 1), nd, e, 0, 0, 0, hpRest c v (wrap64 (ii + 1))⟩)) := by
  obtain ⟨c0, c1, c2, c3, c4, c5, c6, c7, c8, c9, c10, c11, c12, c13, c14, c15, c16, c17, fc⟩ := hpRow (H.get j hj)
  have IJ := Lib.hid hij
  have hj' : cs[j]? = some (blkC _ xb (hpCells xb mb ⟨s, k, mk, hh, lk, v, tk, tr, ii, nd, e, 0, 0, 0, 5⟩ (hpNext xb 5)) 99) := hj
  have HJ := Lib.hid hj'
  have HI := Lib.hid hi
  have HQ := Lib.hid hq
  have QJ := Lib.hid hqj
  clear hj hj' hi hq hij hqj
  go_enter Try.func108, Try.ntmps108
  go_wp2_with fail
  go_region_held3 (fun w' => w'.cell? ⟨xb, 0, none⟩ = some (.pointer (some ⟨mb, 0, none⟩)) ∧ w'.cell? ⟨xb, 6, none⟩ = some (.int .i64 v) ∧ w'.cell? ⟨xb, 9, none⟩ = some (.int .i64 ii)) (refine ⟨?_, ?_, ?_⟩ <;> (first | (with_reducible assumption) | (simp only [cell_drewN1, cell_drew1]; with_reducible assumption) | (exact set_cell1 _ (by first | (with_reducible assumption) | (simp only [cell_drewN1, cell_drew1]; with_reducible assumption)) (by decide)))) (first | (go_at_call 24; refine (Slot_q ((H.drewN _).mAt q HQ.out h) v ii).mono ?_; rintro r w1 ⟨rfl, d1, rfl⟩) | (go_at_call 20; refine (Put_h (H.drewN _) i HI.out _ _).mono ?_; rintro r w2 ⟨rfl, H2⟩; obtain ⟨y0, y1, y2, y3, y4, y5, y6, y7, y8, y9, y10, y11, y12, y13, y14, y15, y16, y17, fy⟩ := hpRow (H2.get j (set_get19 HJ.out _ IJ.out))))
  have hj2 := set_get19 HJ.out (storeC w0.heap.size sb g (mput l (c.slotAt v ii) 0) (wrap64 (n + 1))) IJ.out
  have H3 := H2.blkSet j hj2 9 (.int .i64 (wrap64 (ii + 1)))
  go_upto_region 2 with (fail)
  obtain ⟨W3, HW3, eW3⟩ := H3.name
  rw [← eW3.out]
  have HW4 : Has w0 W3 ((cs.set i (storeC _ sb g (mput l (c.slotAt v ii) 0) (wrap64 (n + 1)))).set j (hpB _ xb mb ⟨s, k, mk, hh, lk, v, tk, tr, wrap64 (ii + 1), nd, e, 0, 0, 0, 5⟩ (hpNext xb 5))) := HW3
  clear eW3 H3 HW3 c0 c1 c2 c3 c4 c5 c6 c7 c8 c9 c10 c11 c12 c13 c14 c15 c16 c17 fc y0 y1 y2 y3 y4 y5 y6 y7 y8 y9 y10 y11 y12 y13 y14 y15 y16 y17 fy
  have hj4 := lset_same19 hj2 (hpB _ xb mb ⟨s, k, mk, hh, lk, v, tk, tr, wrap64 (ii + 1), nd, e, 0, 0, 0, 5⟩ (hpNext xb 5))
  obtain ⟨c0, c1, c2, c3, c4, c5, c6, c7, c8, c9, c10, c11, c12, c13, c14, c15, c16, c17, fc⟩ := hpRow (HW4.get j hj4)
  go_wp2_with fail
  refine (hpRest_q HW4 j q (set_get19 (set_get19 HQ.out _ hiq) _ (Ne.symm QJ.out)) h s k mk hh lk v tk tr (wrap64 (ii + 1)) nd e 5 hj4).mono ?_
  obtain ⟨fb, hfb⟩ := hpRest_form xb c v (wrap64 (ii + 1))
  rw [hfb]
  have HF := Lib.hid hfb
  clear hfb
  rintro r w3 ⟨rfl, d3, rfl⟩
  go_wp2_with fail
  go_end0
  have H4 := (HW4.drewN d3).blkSet j (xs := hpCells xb mb ⟨s, k, mk, hh, lk, v, tk, tr, wrap64 (ii + 1), nd, e, 0, 0, 0, 5⟩ (hpNext xb 5)) (T := 99) hj4 17 (hpNext xb (hpRest c v (wrap64 (ii + 1))))
  rw [HF.out, List.set_set] at H4
  refine ⟨rfl, ?_⟩
  unfold hpC
  dsimp only
  rw [HF.out]
  exact H4
set_option maxRecDepth 100000 in
set_option maxHeartbeats 1000000 in
theorem hpMarks_h (s k mk hh lk v : Int) (tk : Bool) (tr ii nd e : Int) (hj : cs[j]? = some (hpB _ xb mb ⟨s, k, mk, hh, lk, v, tk, tr, ii, nd, e, 0, 0, 0, 6⟩ (hpNext xb 6))) :
    Calls Try.prog 109 #[.pointer (some ⟨xb, 0, none⟩), .pointer (some ⟨sb, 0, none⟩)] w fun r w' => r = .returned (.tuple #[]) ∧
      Has w0 w' ((cs.set i (storeC _ sb g (mput l (c.nodeAt v 2) mk) (wrap64 (n + 1)))).set j (hpC _ xb mb ⟨s, k, mk, hh, lk, v, tk, tr, ii, nd, e, 0, 0, 0, 7⟩)) := by
  obtain ⟨c0, c1, c2, c3, c4, c5, c6, c7, c8, c9, c10, c11, c12, c13, c14, c15, c16, c17, fc⟩ := hpRow (H.get j hj)
  have IJ := Lib.hid hij
  have hj' : cs[j]? = some (blkC _ xb (hpCells xb mb ⟨s, k, mk, hh, lk, v, tk, tr, ii, nd, e, 0, 0, 0, 6⟩ (hpNext xb 6)) 99) := hj
  have HJ := Lib.hid hj'
  have HI := Lib.hid hi
  have HQ := Lib.hid hq
  have QJ := Lib.hid hqj
  clear hj hj' hi hq hij hqj
  go_enter Try.func109, Try.ntmps109
  go_wp2_with fail
  go_region_held3 (fun w' => w'.cell? ⟨xb, 0, none⟩ = some (.pointer (some ⟨mb, 0, none⟩)) ∧ w'.cell? ⟨xb, 3, none⟩ = some (.int .u64 mk) ∧ w'.cell? ⟨xb, 6, none⟩ = some (.int .i64 v)) (refine ⟨?_, ?_, ?_⟩ <;> (first | (with_reducible assumption) | (simp only [cell_drewN1, cell_drew1]; with_reducible assumption) | (exact set_cell1 _ (by first | (with_reducible assumption) | (simp only [cell_drewN1, cell_drew1]; with_reducible assumption)) (by decide)))) (first | (go_at_call 40; refine (Mark_q ((H.drewN _).mAt q HQ.out h) v).mono ?_; rintro r w1 ⟨rfl, d1, rfl⟩) | (go_at_call 20; refine (Put_h (H.drewN _) i HI.out _ _).mono ?_; rintro r w2 ⟨rfl, H2⟩; obtain ⟨y0, y1, y2, y3, y4, y5, y6, y7, y8, y9, y10, y11, y12, y13, y14, y15, y16, y17, fy⟩ := hpRow (H2.get j (set_get19 HJ.out _ IJ.out))))
  have hj2 := set_get19 HJ.out (storeC w0.heap.size sb g (mput l (c.nodeAt v 2) mk) (wrap64 (n + 1))) IJ.out
  go_wp2_with fail
  go_end0
  have H3 := H2.blkSet j hj2 17 (hpNext xb 7)
  exact ⟨rfl, H3⟩
end

end Go.Proofs.Ytmiaghbakdapbaa
