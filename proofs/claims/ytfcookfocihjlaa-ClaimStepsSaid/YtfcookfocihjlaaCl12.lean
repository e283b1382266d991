/- The machine that marks a node (package claim). Conditions: the Store, the machine and the map are parts, the configuration may be. -/
import Derived.Test.YtfcookfocihjlaaFirst5
import Derived.Test.YtfcookfocihjlaaCellsH
import Derived.Test.YtfcookfocihjlaaFunc
set_option linter.unusedVariables false
set_option linter.unusedSimpArgs false
namespace Go.Proofs.Ytfcookfocihjlaa
open Go.ChangeShapes Go.WideShapes Go.ChangeAt Go.RowKit

structure Cl where
  v : Int
  cy : Int
  k : Int
  won : Bool
  pc : Nat

/-- The step that is next: 0 none, 1 look, 2 count, 3 swap, 4 back. -/
def clNext (xb : Nat) : Nat → Value
  | 0 => .nilFunc
  | 1 => .func (.func 42) #[.pointer (some ⟨xb, 0, none⟩)] #[]
  | 2 => .func (.func 58) #[.pointer (some ⟨xb, 0, none⟩)] #[]
  | 3 => .func (.func 63) #[.pointer (some ⟨xb, 0, none⟩)] #[]
  | _ => .func (.func 67) #[.pointer (some ⟨xb, 0, none⟩)] #[]

def clC (n0 xb mb : Nat) (m : Cl) : Chunk n0 := blkC n0 xb #[.pointer (some ⟨mb, 0, none⟩), .int .i64 m.v, .int .u64 m.cy, .int .u64 m.k, .bool m.won, clNext xb m.pc] 84

def clPc (b : Bool) (k : Nat) : Nat := bif b then 0 else k
/-- One step of a machine: what memory is behind it, and the machine. -/
def clStep (c : Cfg) (l : List Int) (m : Cl) : List Int × Cl :=
  match m.pc with
  | 0 => (l, m)
  | 1 => (l, { m with k := mld l (c.nodeAt m.v 2), pc := clPc (decide (m.cy ≤ mld l (c.nodeAt m.v 2))) 2 })
  | 2 => (madd l 1 1, { m with pc := 3 })
  | 3 => (mswap l (c.nodeAt m.v 2) m.k m.cy, { m with won := mswapped l (c.nodeAt m.v 2) m.k, pc := clPc (mswapped l (c.nodeAt m.v 2) m.k) 4 })
  | _ => (madd l 1 18446744073709551615, { m with pc := 0 })
/-- How many accesses there were behind it. -/
def clCount (m : Cl) (n : Int) : Int := bif m.pc == 0 then n else wrap64 (n + 1)

theorem set_get {α : Type} {l : List α} {i j : Nat} {x : α} (h : l[j]? = some x) (y : α) (hne : i ≠ j) : (l.set i y)[j]? = some x := by
  rw [List.getElem?_set_ne hne]; exact h

theorem lset_same {α : Type} {l : List α} {j : Nat} {x : α} (h : l[j]? = some x) (y : α) : (l.set j y)[j]? = some y := by
  rw [List.getElem?_set_self (List.getElem?_eq_some_iff.1 h).1]
theorem lset_is {α : Type} {l : List α} {j : Nat} {x : α} (h : l[j]? = some x) : l.set j x = l := by
  apply List.ext_getElem?
  intro k
  by_cases hk : j = k
  · subst hk; rw [List.getElem?_set_self (List.getElem?_eq_some_iff.1 h).1, h]
  · rw [List.getElem?_set_ne hk]
theorem clC_is (n0 xb mb : Nat) (m : Cl) : clC n0 xb mb m = blkC n0 xb #[.pointer (some ⟨mb, 0, none⟩), .int .i64 m.v, .int .u64 m.cy, .int .u64 m.k, .bool m.won, clNext xb m.pc] 84 := rfl

set_option maxRecDepth 100000 in
theorem clLook_h {w0 w : World} {cs : List (Chunk w0.heap.size)} (H : Has w0 w cs) (i j q : Nat) {sb g xb mb : Nat} {l : List Int} {n : Int} {av rv : Value} {c : Cfg} (v cy k : Int) (won : Bool) (hi : cs[i]? = some (storeC _ sb g l n)) (hj : cs[j]? = some (clC _ xb mb ⟨v, cy, k, won, 1⟩)) (hq : cs[q]? = some (mapC _ mb av rv c)) (hij : i ≠ j) (h : CfgOk c) :
    Calls Try.prog 42 #[.pointer (some ⟨xb, 0, none⟩), .pointer (some ⟨sb, 0, none⟩)] w fun e w' => e = .returned (.tuple #[]) ∧
      Has w0 w' ((cs.set i (storeC _ sb g l (wrap64 (n + 1)))).set j (clC _ xb mb ⟨v, cy, mld l (c.nodeAt v 2), won, clPc (decide (cy ≤ mld l (c.nodeAt v 2))) 2⟩)) := by
  obtain ⟨x0, x1, x2, x3, x4, x5, fx⟩ := row6 (H.get j hj)
  have IJ := Lib.hid hij
  clear hij
  obtain ⟨K, hK⟩ : ∃ K, K = mld l (c.nodeAt v 2) := ⟨_, rfl⟩
  rw [← hK]
  have HK := Lib.hid hK
  clear hK
  go_enter Try.func42, Try.ntmps42
  go_wp2_with fail
  go_region_held3 (fun w' => w'.cell? ⟨xb, 0, none⟩ = some (.pointer (some ⟨mb, 0, none⟩)) ∧ w'.cell? ⟨xb, 1, none⟩ = some (.int .i64 v)) (refine ⟨?_, ?_⟩ <;> (first | (with_reducible assumption) | (simp only [cell_drewN1, cell_drew1]; with_reducible assumption) | (exact set_cell1 _ (by first | (with_reducible assumption) | (simp only [cell_drewN1, cell_drew1]; with_reducible assumption)) (by decide)))) (first | (go_at_call 16; refine (Mark_q ((H.drewN _).mAt q hq h) v).mono ?_; rintro e w1 ⟨rfl, d1, rfl⟩) | (go_at_call 15; refine (Load_h (H.drewN _) i hi _).mono ?_; rw [← HK.out]; rintro e w2 ⟨rfl, H2⟩; obtain ⟨y0, y1, y2, y3, y4, y5, fy⟩ := row6 (H2.get j (set_get hj _ IJ.out))))
  have hj2 := set_get hj (storeC w0.heap.size sb g l (wrap64 (n + 1))) IJ.out
  go_wp2_with fail
  have H3 := H2.blkSet j hj2 3 (.int .u64 K)
  have H4 := H3.blkSet j (lset_same hj2 _) 5 (.func (.func 58) #[.pointer (some ⟨xb, 0, none⟩)] #[])
  rw [List.set_set] at H4
  obtain ⟨W, HW0, eW⟩ := H4.name
  rw [← eW.out]
  have HW : Has w0 W ((cs.set i (storeC _ sb g l (wrap64 (n + 1)))).set j (clC _ xb mb ⟨v, cy, K, won, 2⟩)) := HW0
  clear H2 H3 H4 HW0 y0 y1 y2 y3 y4 y5 fy x0 x1 x2 x3 x4 x5 fx
  obtain ⟨y0, y1, y2, y3, y4, y5, fy⟩ := row6 (HW.get j (lset_same hj2 _))
  by_cases hge : cy ≤ K
  · have E1 := Lib.hid (show clPc (decide (cy ≤ K)) 2 = 0 by simp [clPc, hge])
    go_quiet (fail)
    go_wp2_with fail
    go_end0
    have H5 : ∀ nq, Has w0 ((W.drewN nq).setCell ⟨xb, 5, none⟩ .nilFunc) ((cs.set i (storeC _ sb g l (wrap64 (n + 1)))).set j (clC _ xb mb ⟨v, cy, K, won, 0⟩)) := fun nq => by
      have := (HW.drewN nq).blkSet j (lset_same hj2 _) 5 .nilFunc
      rw [List.set_set] at this
      exact this
    exact ⟨rfl, H5 _⟩
  · have E1 := Lib.hid (show clPc (decide (cy ≤ K)) 2 = 2 by simp [clPc, hge])
    go_quiet (fail)
    go_wp2_with fail
    go_end0
    rw [E1.out]
    exact ⟨rfl, HW.drewN _⟩

set_option maxRecDepth 100000 in
theorem clCount_h {w0 w : World} {cs : List (Chunk w0.heap.size)} (H : Has w0 w cs) (i j q : Nat) {sb g xb mb : Nat} {l : List Int} {n : Int} {av rv : Value} {c : Cfg} (v cy k : Int) (won : Bool) (hi : cs[i]? = some (storeC _ sb g l n)) (hj : cs[j]? = some (clC _ xb mb ⟨v, cy, k, won, 2⟩)) (hq : cs[q]? = some (mapC _ mb av rv c)) (hij : i ≠ j) (h : CfgOk c) :
    Calls Try.prog 58 #[.pointer (some ⟨xb, 0, none⟩), .pointer (some ⟨sb, 0, none⟩)] w fun e w' => e = .returned (.tuple #[]) ∧
      Has w0 w' ((cs.set i (storeC _ sb g (madd l 1 1) (wrap64 (n + 1)))).set j (clC _ xb mb ⟨v, cy, k, won, 3⟩)) := by
  obtain ⟨x0, x1, x2, x3, x4, x5, fx⟩ := row6 (H.get j hj)
  have IJ := Lib.hid hij
  clear hij
  go_enter Try.func58, Try.ntmps58
  go_wp2_with fail
  refine (Work_q (H.mAt q hq h)).mono ?_
  rintro e w1 ⟨rfl, d1, rfl⟩
  go_wp2_with fail
  refine (Add_h (H.drewN _) i hi _ _).mono ?_
  rintro e w2 ⟨rfl, H2⟩
  obtain ⟨y0, y1, y2, y3, y4, y5, fy⟩ := row6 (H2.get j (set_get hj _ IJ.out))
  have hj2 := set_get hj (storeC w0.heap.size sb g (madd l 1 1) (wrap64 (n + 1))) IJ.out
  go_wp2_with fail
  go_end0
  have H3 := H2.blkSet j hj2 5 (.func (.func 63) #[.pointer (some ⟨xb, 0, none⟩)] #[])
  exact ⟨rfl, H3⟩

set_option maxRecDepth 100000 in
theorem clBack_h {w0 w : World} {cs : List (Chunk w0.heap.size)} (H : Has w0 w cs) (i j q : Nat) {sb g xb mb : Nat} {l : List Int} {n : Int} {av rv : Value} {c : Cfg} (v cy k : Int) (won : Bool) (p : Nat) (hi : cs[i]? = some (storeC _ sb g l n)) (hj : cs[j]? = some (clC _ xb mb ⟨v, cy, k, won, p⟩)) (hq : cs[q]? = some (mapC _ mb av rv c)) (hij : i ≠ j) (h : CfgOk c) :
    Calls Try.prog 67 #[.pointer (some ⟨xb, 0, none⟩), .pointer (some ⟨sb, 0, none⟩)] w fun e w' => e = .returned (.tuple #[]) ∧
      Has w0 w' ((cs.set i (storeC _ sb g (madd l 1 18446744073709551615) (wrap64 (n + 1)))).set j (clC _ xb mb ⟨v, cy, k, won, 0⟩)) := by
  obtain ⟨x0, x1, x2, x3, x4, x5, fx⟩ := row6 (H.get j hj)
  have IJ := Lib.hid hij
  clear hij
  go_enter Try.func67, Try.ntmps67
  go_wp2_with fail
  refine (Work_q (H.mAt q hq h)).mono ?_
  rintro e w1 ⟨rfl, d1, rfl⟩
  go_wp2_with fail
  refine (Add_h (H.drewN _) i hi _ _).mono ?_
  rintro e w2 ⟨rfl, H2⟩
  obtain ⟨y0, y1, y2, y3, y4, y5, fy⟩ := row6 (H2.get j (set_get hj _ IJ.out))
  have hj2 := set_get hj (storeC w0.heap.size sb g (madd l 1 18446744073709551615) (wrap64 (n + 1))) IJ.out
  go_wp2_with fail
  go_end0
  have H3 := H2.blkSet j hj2 5 .nilFunc
  exact ⟨rfl, H3⟩

set_option maxRecDepth 100000 in
theorem clSwap_h {w0 w : World} {cs : List (Chunk w0.heap.size)} (H : Has w0 w cs) (i j q : Nat) {sb g xb mb : Nat} {l : List Int} {n : Int} {av rv : Value} {c : Cfg} (v cy k : Int) (won : Bool) (hi : cs[i]? = some (storeC _ sb g l n)) (hj : cs[j]? = some (clC _ xb mb ⟨v, cy, k, won, 3⟩)) (hq : cs[q]? = some (mapC _ mb av rv c)) (hij : i ≠ j) (h : CfgOk c) :
    Calls Try.prog 63 #[.pointer (some ⟨xb, 0, none⟩), .pointer (some ⟨sb, 0, none⟩)] w fun e w' => e = .returned (.tuple #[]) ∧
      Has w0 w' ((cs.set i (storeC _ sb g (mswap l (c.nodeAt v 2) k cy) (wrap64 (n + 1)))).set j (clC _ xb mb ⟨v, cy, k, mswapped l (c.nodeAt v 2) k, clPc (mswapped l (c.nodeAt v 2) k) 4⟩)) := by
  obtain ⟨x0, x1, x2, x3, x4, x5, fx⟩ := row6 (H.get j hj)
  have IJ := Lib.hid hij
  clear hij
  obtain ⟨B, hB⟩ : ∃ B, B = mswapped l (c.nodeAt v 2) k := ⟨_, rfl⟩
  rw [← hB]
  have HB := Lib.hid hB
  clear hB
  go_enter Try.func63, Try.ntmps63
  go_wp2_with fail
  go_region_held3 (fun w' => w'.cell? ⟨xb, 0, none⟩ = some (.pointer (some ⟨mb, 0, none⟩)) ∧ w'.cell? ⟨xb, 1, none⟩ = some (.int .i64 v) ∧ w'.cell? ⟨xb, 2, none⟩ = some (.int .u64 cy) ∧ w'.cell? ⟨xb, 3, none⟩ = some (.int .u64 k)) (refine ⟨?_, ?_, ?_, ?_⟩ <;> (first | (with_reducible assumption) | (simp only [cell_drewN1, cell_drew1]; with_reducible assumption) | (exact set_cell1 _ (by first | (with_reducible assumption) | (simp only [cell_drewN1, cell_drew1]; with_reducible assumption)) (by decide)))) (first | (go_at_call 16; refine (Mark_q ((H.drewN _).mAt q hq h) v).mono ?_; rintro e w1 ⟨rfl, d1, rfl⟩) | (go_at_call 66; refine (Swap_h (H.drewN _) i hi _ _ _).mono ?_; rw [← HB.out]; rintro e w2 ⟨rfl, H2⟩; obtain ⟨y0, y1, y2, y3, y4, y5, fy⟩ := row6 (H2.get j (set_get hj _ IJ.out))))
  have hj2 := set_get hj (storeC w0.heap.size sb g (mswap l (c.nodeAt v 2) k cy) (wrap64 (n + 1))) IJ.out
  have H3 := H2.blkSet j hj2 4 (.bool B)
  have H4 := H3.blkSet j (lset_same hj2 _) 5 (.func (.func 67) #[.pointer (some ⟨xb, 0, none⟩)] #[])
  rw [List.set_set] at H4
  cases B with
  | true =>
    go_wp2_with fail
    go_end0
    have H5 := H4.blkSet j (lset_same hj2 _) 5 .nilFunc
    rw [List.set_set] at H5
    exact ⟨rfl, H5⟩
  | false =>
    go_wp2_with fail
    go_end0
    exact ⟨rfl, H4⟩

set_option maxRecDepth 100000 in
/-- One step of a machine. -/
theorem clStep_h {w0 w : World} {cs : List (Chunk w0.heap.size)} (H : Has w0 w cs) (i j q : Nat) {sb g xb mb : Nat} {l : List Int} {n : Int} {av rv : Value} {c : Cfg} (m : Cl) (hi : cs[i]? = some (storeC _ sb g l n)) (hj : cs[j]? = some (clC _ xb mb m)) (hq : cs[q]? = some (mapC _ mb av rv c)) (hij : i ≠ j) (h : CfgOk c) :
    Calls Try.prog 13 #[.pointer (some ⟨xb, 0, none⟩), .pointer (some ⟨sb, 0, none⟩)] w fun e w' => e = .returned (.bool ((clStep c l m).2.pc == 0)) ∧
      Has w0 w' ((cs.set i (storeC _ sb g (clStep c l m).1 (clCount m n))).set j (clC _ xb mb (clStep c l m).2)) := by
  obtain ⟨v, cy, k, won, pc⟩ := m
  have hj0 := hj
  have f0 := fun (w : World) f b c => run_eql_func w (Try.underlying82) f b c
  have f1 := fun (w : World) => run_eql_nil w (Try.underlying82)
  have IJ := Lib.hid hij
  clear hij
  have hj1 := hj0
  clear hj0
  match pc, hj1 with
  | 0, hj2 =>
    clear hj
    have hj := hj2
    have hj0 := hj
    clear hj2
    obtain ⟨x0, x1, x2, x3, x4, x5, fx⟩ := row6 (H.get j hj)
    simp only [clNext] at x5
    go_enter Try.func13, Try.ntmps13
    go_wp2_with fail
    go_ret
    have e1 : (cs.set i (storeC w0.heap.size sb g l n)).set j (clC _ xb mb ⟨v, cy, k, won, 0⟩) = cs := by rw [lset_is hi]; exact lset_is hj0
    exact ⟨rfl, by show Has w0 _ ((cs.set i (storeC _ sb g l n)).set j (clC _ xb mb ⟨v, cy, k, won, 0⟩)); rw [e1]; exact H⟩
  | 1, hj2 =>
    clear hj
    have hj := hj2
    have hj0 := hj
    clear hj2
    obtain ⟨x0, x1, x2, x3, x4, x5, fx⟩ := row6 (H.get j hj)
    simp only [clNext] at x5
    have hst : clStep c l ⟨v, cy, k, won, 1⟩ = (l, ⟨v, cy, mld l (c.nodeAt v 2), won, clPc (decide (cy ≤ mld l (c.nodeAt v 2))) 2⟩) := rfl
    rw [hst]
    clear hst
    obtain ⟨b, hb⟩ : ∃ b, b = decide (cy ≤ mld l (c.nodeAt v 2)) := ⟨_, rfl⟩
    rw [← hb]
    have HB := Lib.hid hb
    clear hb
    dsimp only
    go_enter Try.func13, Try.ntmps13
    go_wp2_with fail
    refine (clLook_h H i j q v cy k won hi hj hq IJ.out h).mono ?_
    rw [← HB.out]
    rintro e w1 ⟨rfl, H1⟩
    cases b with
    | true =>
      obtain ⟨y0, y1, y2, y3, y4, y5, fy⟩ := row6 (H1.get j (lset_same (set_get hj _ IJ.out) _))
      simp only [clNext, clPc, cond_true] at y5
      clear x0 x1 x2 x3 x4 x5 fx
      go_wp2_with fail
      go_ret
      exact ⟨rfl, H1⟩
    | false =>
      obtain ⟨y0, y1, y2, y3, y4, y5, fy⟩ := row6 (H1.get j (lset_same (set_get hj _ IJ.out) _))
      simp only [clNext, clPc, cond_false] at y5
      clear x0 x1 x2 x3 x4 x5 fx
      go_wp2_with fail
      go_ret
      exact ⟨rfl, H1⟩
  | 2, hj2 =>
    clear hj
    have hj := hj2
    have hj0 := hj
    clear hj2
    obtain ⟨x0, x1, x2, x3, x4, x5, fx⟩ := row6 (H.get j hj)
    simp only [clNext] at x5
    go_enter Try.func13, Try.ntmps13
    go_wp2_with fail
    refine (clCount_h H i j q v cy k won hi hj hq IJ.out h).mono ?_
    rintro e w1 ⟨rfl, H1⟩
    obtain ⟨y0, y1, y2, y3, y4, y5, fy⟩ := row6 (H1.get j (lset_same (set_get hj _ IJ.out) _))
    simp only [clNext] at y5
    clear x0 x1 x2 x3 x4 x5 fx
    go_wp2_with fail
    go_ret
    exact ⟨rfl, H1⟩
  | 3, hj2 =>
    clear hj
    have hj := hj2
    have hj0 := hj
    clear hj2
    obtain ⟨x0, x1, x2, x3, x4, x5, fx⟩ := row6 (H.get j hj)
    simp only [clNext] at x5
    have hst : clStep c l ⟨v, cy, k, won, 3⟩ = (mswap l (c.nodeAt v 2) k cy, ⟨v, cy, k, mswapped l (c.nodeAt v 2) k, clPc (mswapped l (c.nodeAt v 2) k) 4⟩) := rfl
    rw [hst]
    clear hst
    obtain ⟨b, hb⟩ : ∃ b, b = mswapped l (c.nodeAt v 2) k := ⟨_, rfl⟩
    rw [← hb]
    have HB := Lib.hid hb
    clear hb
    dsimp only
    go_enter Try.func13, Try.ntmps13
    go_wp2_with fail
    refine (clSwap_h H i j q v cy k won hi hj hq IJ.out h).mono ?_
    rw [← HB.out]
    rintro e w1 ⟨rfl, H1⟩
    cases b with
    | true =>
      obtain ⟨y0, y1, y2, y3, y4, y5, fy⟩ := row6 (H1.get j (lset_same (set_get hj _ IJ.out) _))
      simp only [clNext, clPc, cond_true] at y5
      clear x0 x1 x2 x3 x4 x5 fx
      go_wp2_with fail
      go_ret
      exact ⟨rfl, H1⟩
    | false =>
      obtain ⟨y0, y1, y2, y3, y4, y5, fy⟩ := row6 (H1.get j (lset_same (set_get hj _ IJ.out) _))
      simp only [clNext, clPc, cond_false] at y5
      clear x0 x1 x2 x3 x4 x5 fx
      go_wp2_with fail
      go_ret
      exact ⟨rfl, H1⟩
  | p + 4, hj2 =>
    clear hj
    have hj := hj2
    have hj0 := hj
    clear hj2
    obtain ⟨x0, x1, x2, x3, x4, x5, fx⟩ := row6 (H.get j hj)
    simp only [clNext] at x5
    go_enter Try.func13, Try.ntmps13
    go_wp2_with fail
    refine (clBack_h H i j q v cy k won (p + 4) hi hj hq IJ.out h).mono ?_
    rintro e w1 ⟨rfl, H1⟩
    obtain ⟨y0, y1, y2, y3, y4, y5, fy⟩ := row6 (H1.get j (lset_same (set_get hj _ IJ.out) _))
    simp only [clNext] at y5
    clear x0 x1 x2 x3 x4 x5 fx
    go_wp2_with fail
    go_ret
    exact ⟨rfl, H1⟩

theorem clWon_h {w0 w : World} {cs : List (Chunk w0.heap.size)} (H : Has w0 w cs) (j : Nat) {xb mb : Nat} (m : Cl) (hj : cs[j]? = some (clC _ xb mb m)) :
    Calls Try.prog 14 #[.pointer (some ⟨xb, 0, none⟩)] w fun e w' => e = .returned (.bool m.won) ∧ ∃ n, w' = w.drewN n := by
  obtain ⟨x0, x1, x2, x3, x4, x5, fx⟩ := row6 (H.get j hj)
  go_enter Try.func14, Try.ntmps14
  go_wp2_with fail
  go_ret
  exact ⟨rfl, 0, rfl⟩

theorem run_eqIn_ptr {P : Program} (w : World) {t e : TypeId} (h : P.underlying t = some (.pointer e)) (a : Addr) (d : Nat) : (Op.equalIn (d + 1) t (.pointer (some a)) (.pointer none)).run P w = .ok false w := by
  simp [Op.equalIn, run_underlying h]

set_option maxRecDepth 100000 in
theorem clNew_h {w0 w : World} {cs : List (Chunk w0.heap.size)} (H : Has w0 w cs) (mb : Nat) (v cy : Int) :
    Calls Try.prog 12 #[.pointer (some ⟨mb, 0, none⟩), .int .i64 v, .int .u64 cy] w fun e w' => ∃ xb, e = .returned (.pointer (some ⟨xb, 0, none⟩)) ∧ Has w0 w' (cs ++ [clC _ xb mb ⟨v, cy, 0, false, 1⟩]) := by
  have f2 : ∀ (w : World) a, (Op.equalIn 9999 24 (.pointer (some a)) (.pointer none)).run Try.prog w = .ok false w := fun w a => run_eqIn_ptr w Try.underlying24 a 9998
  go_enter Try.func12, Try.ntmps12
  go_wp2_with fail
  go_ret
  exact ⟨_, rfl, H.blkNew _ _⟩

end Go.Proofs.Ytfcookfocihjlaa
