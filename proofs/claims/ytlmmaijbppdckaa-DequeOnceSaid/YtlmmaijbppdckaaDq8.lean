/- A marker's tasks (package deque), over memory as parts. Conditions: the Store and the machine are parts. -/
import Derived.Test.YtlmmaijbppdckaaDq8p
import Derived.Test.YtlmmaijbppdckaaCellsH
import Derived.Test.YtlmmaijbppdckaaFunc
import Derived.Laws.EntriesVeiled
import Derived.Deep.RegionHeld3
set_option linter.unusedVariables false
set_option linter.unusedSimpArgs false
namespace Go.Proofs.Ytlmmaijbppdckaa
open Go.ChangeShapes Go.WideShapes Go.ChangeAt Go.RowKit

structure EnOk (e : En) : Prop where
  lo : -1000 ≤ e.entry
  hi : e.entry ≤ 1000
  room : e.room ≤ 1000
  rlo : -9223372036854775808 ≤ e.room

theorem entry_c (e : En) (x : Int) (h : EnOk e) (x0 : 0 ≤ x) (x1 : x < 18446744073709551616) (w : World) :
    Calls Try.prog 39 #[.agg #[.int .i64 e.top, .int .i64 e.bottom, .int .i64 e.entry, .int .i64 e.room], .int .u64 x] w fun r w' => r = .returned (.int .i64 (enAt e x)) ∧ Below w.heap.size w w' := by
  obtain ⟨h1, h2, h3, h4⟩ := h
  obtain ⟨top, bottom, entry, room⟩ := e
  dsimp only at h1 h2 h3 h4
  by_cases hr : 1 ≤ room
  · have E : enAt ⟨top, bottom, entry, room⟩ x = entry + x % room := by unfold enAt enRoom; dsimp only; rw [if_pos hr]
    have EE := Lib.hid E
    clear E
    have hm : max room 1 = room := by omega
    have m0 := Int.emod_nonneg x (by omega : room ≠ 0)
    have m1 := Int.emod_lt_of_pos x (by omega : 0 < room)
    dsimp only
    go_enter Try.func39, Try.ntmps39
    go_wp2_with fail
    go_region
    all_goals go_wp2_with fail
    all_goals go_ret
    all_goals exact ⟨ret_int EE.out.symm, below_box w _ 1⟩
  · have E : enAt ⟨top, bottom, entry, room⟩ x = entry + x % 1 := by unfold enAt enRoom; dsimp only; rw [if_neg hr]
    have EE := Lib.hid E
    clear E
    have hm : max room 1 = 1 := by omega
    dsimp only
    go_enter Try.func39, Try.ntmps39
    go_wp2_with fail
    go_region
    all_goals go_wp2_with fail
    all_goals go_ret
    all_goals exact ⟨ret_int (by rw [EE.out]; omega), below_box w _ 1⟩

theorem cell_drewN8 (w : World) (n : Nat) (a : Addr) : (w.drewN n).cell? a = w.cell? a := rfl
theorem cell_drew8 (w : World) (a : Addr) : w.drew.cell? a = w.cell? a := rfl
theorem set_get8 {α : Type} {l : List α} {i j : Nat} {x : α} (h : l[j]? = some x) (y : α) (hne : i ≠ j) : (l.set i y)[j]? = some x := by
  rw [List.getElem?_set_ne hne]; exact h
theorem lset_same8 {α : Type} {l : List α} {j : Nat} {x : α} (h : l[j]? = some x) (y : α) : (l.set j y)[j]? = some y := by
  rw [List.getElem?_set_self (List.getElem?_eq_some_iff.1 h).1]
theorem lset_is8 {α : Type} {l : List α} {j : Nat} {x : α} (h : l[j]? = some x) : l.set j x = l := by
  apply List.ext_getElem?
  intro k
  by_cases hk : j = k
  · subst hk; rw [List.getElem?_set_self (List.getElem?_eq_some_iff.1 h).1, h]
  · rw [List.getElem?_set_ne hk]
theorem set_cell8 {w : World} {mb o p : Nat} {u : Value} (v : Value) (h : w.cell? ⟨mb, o, none⟩ = some u) (hne : p ≠ o) : (w.setCell ⟨mb, p, none⟩ v).cell? ⟨mb, o, none⟩ = some u := by
  exact (World.cell?_setCell_other _ _ _ _ (fun q => hne (congrArg Addr.off q))).trans h
theorem Has.more {w0 w : World} {cs : List (Chunk w0.heap.size)} {j b : Nat} {xs : Array Value} {T : TypeId} (H : Has w0 w (cs.set j (blkC _ b xs T))) (hl : j < cs.length) (o : Nat) (u : Value) : Has w0 (w.setCell ⟨b, o, none⟩ u) (cs.set j (blkC _ b (xs.setIfInBounds o u) T)) := by
  have := H.blkSet j (by rw [List.getElem?_set_self hl]) o u
  rwa [List.set_set] at this

/-- A machine's block. -/
def dqB (n0 xb : Nat) (e : En) (nx : Value) (b t x o : Int) (won : Bool) : Chunk n0 := blkC n0 xb #[.int .i64 e.top, .int .i64 e.bottom, .int .i64 e.entry, .int .i64 e.room, nx, .int .u64 b, .int .u64 t, .int .u64 x, .int .i64 o, .bool won] 63
abbrev bnd (f : Nat) (xb : Nat) : Value := .func (.func f) #[.pointer (some ⟨xb, 0, none⟩)] #[]

theorem end_h {w0 w : World} {cs : List (Chunk w0.heap.size)} (H : Has w0 w cs) (j : Nat) {xb : Nat} {e : En} {nx : Value} {b t x o : Int} {won : Bool} (hj : cs[j]? = some (dqB _ xb e nx b t x o won)) (k : Int) :
    Calls Try.prog 36 #[.pointer (some ⟨xb, 0, none⟩), .int .i64 k] w fun r w' => r = .returned (.tuple #[]) ∧ Has w0 w' (cs.set j (dqB _ xb e .nilFunc b t x k won)) := by
  obtain ⟨x0, x1, x2, x3, x4, x5, x6, x7, x8, x9, fx⟩ := row10 (H.get j hj)
  have hl := Lib.hid (List.getElem?_eq_some_iff.1 hj).1
  go_enter Try.func36, Try.ntmps36
  go_wp2_with fail
  go_end0
  exact ⟨rfl, (H.blkSet j hj 8 (.int .i64 k)).more hl.out 4 .nilFunc⟩

section
variable {w0 w : World} {cs : List (Chunk w0.heap.size)} (H : Has w0 w cs) (i j : Nat) {sb g xb : Nat} {l : List Int} {n : Int} {e : En} {nx : Value} {b t x o : Int} {won : Bool} (hi : cs[i]? = some (storeC _ sb g l n)) (hj : cs[j]? = some (dqB _ xb e nx b t x o won)) (hij : i ≠ j)
include H hi hj hij

set_option maxRecDepth 100000 in
set_option maxHeartbeats 2000000 in
theorem pushBottom_h  :
    Calls Try.prog 23 #[.pointer (some ⟨xb, 0, none⟩), .pointer (some ⟨sb, 0, none⟩)] w fun r w' => r = .returned (.tuple #[]) ∧
      Has w0 w' ((cs.set i (storeC _ sb g l (wrap64 (n + 1)))).set j (dqB _ xb e (bnd 31 xb) (mld l e.bottom) t x o won)) := by
  obtain ⟨x0, x1, x2, x3, x4, x5, x6, x7, x8, x9, fx⟩ := row10 (H.get j hj)
  have IJ := Lib.hid hij
  clear hij
  obtain ⟨K, hK⟩ : ∃ K, K = mld l e.bottom := ⟨_, rfl⟩
  rw [← hK]
  have HK := Lib.hid hK
  clear hK
  go_enter Try.func23, Try.ntmps23
  go_wp2_with fail
  refine (Load_h H i hi _).mono ?_
  rw [← HK.out]
  rintro r w2 ⟨rfl, H2⟩
  have hj2 := set_get8 hj (storeC w0.heap.size sb g l (wrap64 (n + 1))) IJ.out
  have hl2 := Lib.hid (List.getElem?_eq_some_iff.1 hj2).1
  obtain ⟨y0, y1, y2, y3, y4, y5, y6, y7, y8, y9, fy⟩ := row10 (H2.get j hj2)
  clear x0 x1 x2 x3 x4 x5 x6 x7 x8 x9 fx
  go_wp2_with fail
  go_end0
  first | exact ⟨rfl, (H2.blkSet j hj2 5 (.int .u64 K)).more hl2.out 4 (.func (.func 31) #[.pointer (some ⟨xb, 0, none⟩)] #[])⟩ | exact ⟨rfl, ((H2.blkSet j hj2 5 (.int .u64 K)).more hl2.out 4 (.func (.func 31) #[.pointer (some ⟨xb, 0, none⟩)] #[])).drew⟩ | exact ⟨rfl, ((H2.blkSet j hj2 5 (.int .u64 K)).more hl2.out 4 (.func (.func 31) #[.pointer (some ⟨xb, 0, none⟩)] #[])).drewN _⟩

set_option maxRecDepth 100000 in
set_option maxHeartbeats 2000000 in
theorem popBottom_h  :
    Calls Try.prog 24 #[.pointer (some ⟨xb, 0, none⟩), .pointer (some ⟨sb, 0, none⟩)] w fun r w' => r = .returned (.tuple #[]) ∧
      Has w0 w' ((cs.set i (storeC _ sb g l (wrap64 (n + 1)))).set j (dqB _ xb e (bnd 32 xb) (wu ((mld l e.bottom) - 1)) t x o won)) := by
  obtain ⟨x0, x1, x2, x3, x4, x5, x6, x7, x8, x9, fx⟩ := row10 (H.get j hj)
  have IJ := Lib.hid hij
  clear hij
  obtain ⟨K, hK⟩ : ∃ K, K = mld l e.bottom := ⟨_, rfl⟩
  rw [← hK]
  have HK := Lib.hid hK
  clear hK
  go_enter Try.func24, Try.ntmps24
  go_wp2_with fail
  refine (Load_h H i hi _).mono ?_
  rw [← HK.out]
  rintro r w2 ⟨rfl, H2⟩
  have hj2 := set_get8 hj (storeC w0.heap.size sb g l (wrap64 (n + 1))) IJ.out
  have hl2 := Lib.hid (List.getElem?_eq_some_iff.1 hj2).1
  obtain ⟨y0, y1, y2, y3, y4, y5, y6, y7, y8, y9, fy⟩ := row10 (H2.get j hj2)
  clear x0 x1 x2 x3 x4 x5 x6 x7 x8 x9 fx
  go_wp2_with fail
  go_end0
  first | exact ⟨rfl, (H2.blkSet j hj2 5 (.int .u64 (wu (K - 1)))).more hl2.out 4 (.func (.func 32) #[.pointer (some ⟨xb, 0, none⟩)] #[])⟩ | exact ⟨rfl, ((H2.blkSet j hj2 5 (.int .u64 (wu (K - 1)))).more hl2.out 4 (.func (.func 32) #[.pointer (some ⟨xb, 0, none⟩)] #[])).drew⟩ | exact ⟨rfl, ((H2.blkSet j hj2 5 (.int .u64 (wu (K - 1)))).more hl2.out 4 (.func (.func 32) #[.pointer (some ⟨xb, 0, none⟩)] #[])).drewN _⟩

set_option maxRecDepth 100000 in
set_option maxHeartbeats 2000000 in
theorem stealTop_h  :
    Calls Try.prog 25 #[.pointer (some ⟨xb, 0, none⟩), .pointer (some ⟨sb, 0, none⟩)] w fun r w' => r = .returned (.tuple #[]) ∧
      Has w0 w' ((cs.set i (storeC _ sb g l (wrap64 (n + 1)))).set j (dqB _ xb e (bnd 33 xb) b (mld l e.top) x o won)) := by
  obtain ⟨x0, x1, x2, x3, x4, x5, x6, x7, x8, x9, fx⟩ := row10 (H.get j hj)
  have IJ := Lib.hid hij
  clear hij
  obtain ⟨K, hK⟩ : ∃ K, K = mld l e.top := ⟨_, rfl⟩
  rw [← hK]
  have HK := Lib.hid hK
  clear hK
  go_enter Try.func25, Try.ntmps25
  go_wp2_with fail
  refine (Load_h H i hi _).mono ?_
  rw [← HK.out]
  rintro r w2 ⟨rfl, H2⟩
  have hj2 := set_get8 hj (storeC w0.heap.size sb g l (wrap64 (n + 1))) IJ.out
  have hl2 := Lib.hid (List.getElem?_eq_some_iff.1 hj2).1
  obtain ⟨y0, y1, y2, y3, y4, y5, y6, y7, y8, y9, fy⟩ := row10 (H2.get j hj2)
  clear x0 x1 x2 x3 x4 x5 x6 x7 x8 x9 fx
  go_wp2_with fail
  go_end0
  first | exact ⟨rfl, (H2.blkSet j hj2 6 (.int .u64 K)).more hl2.out 4 (.func (.func 33) #[.pointer (some ⟨xb, 0, none⟩)] #[])⟩ | exact ⟨rfl, ((H2.blkSet j hj2 6 (.int .u64 K)).more hl2.out 4 (.func (.func 33) #[.pointer (some ⟨xb, 0, none⟩)] #[])).drew⟩ | exact ⟨rfl, ((H2.blkSet j hj2 6 (.int .u64 K)).more hl2.out 4 (.func (.func 33) #[.pointer (some ⟨xb, 0, none⟩)] #[])).drewN _⟩

set_option maxRecDepth 100000 in
set_option maxHeartbeats 2000000 in
theorem pushTop_yes1_h (hc : enRoom e ≤ wAhead b (mld l e.top)) (hr0 : e.room ≤ 1000) (hr1 : -9223372036854775808 ≤ e.room) (hr : 1 ≤ e.room) :
    Calls Try.prog 31 #[.pointer (some ⟨xb, 0, none⟩), .pointer (some ⟨sb, 0, none⟩)] w fun r w' => r = .returned (.tuple #[]) ∧
      Has w0 w' ((cs.set i (storeC _ sb g l (wrap64 (n + 1)))).set j (dqB _ xb e .nilFunc b (mld l e.top) 0 2 won)) := by
  obtain ⟨x0, x1, x2, x3, x4, x5, x6, x7, x8, x9, fx⟩ := row10 (H.get j hj)
  have IJ := Lib.hid hij
  clear hij
  have HC := Lib.hid hc
  clear hc
  obtain ⟨K, hK⟩ : ∃ K, K = mld l e.top := ⟨_, rfl⟩
  rw [← hK] at HC ⊢
  have HK := Lib.hid hK
  clear hK
  have hc := HC.out
  have hmx : max e.room 1 = e.room := by omega
  have hqm : enRoom e = e.room := by unfold enRoom; rw [if_pos hr]
  rw [hqm] at hc
  clear hqm
  go_enter Try.func31, Try.ntmps31
  go_wp2_with fail
  refine (Load_h H i hi _).mono ?_
  rw [← HK.out]
  rintro r w2 ⟨rfl, H2⟩
  have hj2 := set_get8 hj (storeC w0.heap.size sb g l (wrap64 (n + 1))) IJ.out
  have hl2 := Lib.hid (List.getElem?_eq_some_iff.1 hj2).1
  obtain ⟨y0, y1, y2, y3, y4, y5, y6, y7, y8, y9, fy⟩ := row10 (H2.get j hj2)
  clear x0 x1 x2 x3 x4 x5 x6 x7 x8 x9 fx
  go_wp2_with fail
  have H3 := (H2.blkSet j hj2 6 (.int .u64 K)).more hl2.out 4 (.func (.func 34) #[.pointer (some ⟨xb, 0, none⟩)] #[])
  obtain ⟨W, HW0, eW⟩ := H3.name
  rw [← eW.out]
  have HW : Has w0 W ((cs.set i (storeC _ sb g l (wrap64 (n + 1)))).set j (dqB _ xb e (bnd 34 xb) b K x o won)) := HW0
  clear H2 H3 HW0 eW y0 y1 y2 y3 y4 y5 y6 y7 y8 y9 fy
  obtain ⟨y0, y1, y2, y3, y4, y5, y6, y7, y8, y9, fy⟩ := row10 (HW.get j (lset_same8 hj2 _))
  have H5 : ∀ nq, Has w0 ((W.drewN nq).setCell ⟨xb, 7, none⟩ (.int .u64 0)) ((cs.set i (storeC _ sb g l (wrap64 (n + 1)))).set j (dqB _ xb e (bnd 34 xb) b K 0 o won)) := fun nq => by
    have H4 := (HW.drewN nq).blkSet j (lset_same8 hj2 _) 7 (.int .u64 0)
    rw [List.set_set] at H4
    exact H4
  go_region_held3 (fun w' => w'.cell? ⟨xb, 3, none⟩ = some (.int .i64 e.room) ∧ w'.cell? ⟨xb, 5, none⟩ = some (.int .u64 b) ∧ w'.cell? ⟨xb, 6, none⟩ = some (.int .u64 K)) (refine ⟨?_, ?_, ?_⟩ <;> (first | (with_reducible assumption) | (simp only [cell_drewN8, cell_drew8]; with_reducible assumption) | ((try simp only [cell_drewN8, cell_drew8]); (repeat (with_reducible refine set_cell8 _ ?_ (by decide))); (first | (with_reducible assumption) | (simp only [cell_drewN8, cell_drew8]; with_reducible assumption))))) (first | (go_at_call 35; refine (Ahead_c _ _ _).mono ?_; rintro r w3 ⟨rfl, d3, rfl⟩))
  all_goals go_wp2_with fail
  all_goals refine (end_h (H5 _) j (lset_same8 hj2 _) 2).mono ?_
  all_goals rintro r w4 ⟨rfl, H6⟩
  all_goals rw [List.set_set] at H6
  all_goals go_wp2_with fail
  all_goals go_end0
  all_goals first | exact ⟨rfl, H6⟩ | exact ⟨rfl, H6.drew⟩ | exact ⟨rfl, H6.drewN _⟩

set_option maxRecDepth 100000 in
set_option maxHeartbeats 2000000 in
theorem pushTop_yes0_h (hc : enRoom e ≤ wAhead b (mld l e.top)) (hr0 : e.room ≤ 1000) (hr1 : -9223372036854775808 ≤ e.room) (hr : ¬ (1 ≤ e.room)) :
    Calls Try.prog 31 #[.pointer (some ⟨xb, 0, none⟩), .pointer (some ⟨sb, 0, none⟩)] w fun r w' => r = .returned (.tuple #[]) ∧
      Has w0 w' ((cs.set i (storeC _ sb g l (wrap64 (n + 1)))).set j (dqB _ xb e .nilFunc b (mld l e.top) 0 2 won)) := by
  obtain ⟨x0, x1, x2, x3, x4, x5, x6, x7, x8, x9, fx⟩ := row10 (H.get j hj)
  have IJ := Lib.hid hij
  clear hij
  have HC := Lib.hid hc
  clear hc
  obtain ⟨K, hK⟩ : ∃ K, K = mld l e.top := ⟨_, rfl⟩
  rw [← hK] at HC ⊢
  have HK := Lib.hid hK
  clear hK
  have hc := HC.out
  have hmx : max e.room 1 = 1 := by omega
  have hqm : enRoom e = 1 := by unfold enRoom; rw [if_neg hr]
  rw [hqm] at hc
  clear hqm
  go_enter Try.func31, Try.ntmps31
  go_wp2_with fail
  refine (Load_h H i hi _).mono ?_
  rw [← HK.out]
  rintro r w2 ⟨rfl, H2⟩
  have hj2 := set_get8 hj (storeC w0.heap.size sb g l (wrap64 (n + 1))) IJ.out
  have hl2 := Lib.hid (List.getElem?_eq_some_iff.1 hj2).1
  obtain ⟨y0, y1, y2, y3, y4, y5, y6, y7, y8, y9, fy⟩ := row10 (H2.get j hj2)
  clear x0 x1 x2 x3 x4 x5 x6 x7 x8 x9 fx
  go_wp2_with fail
  have H3 := (H2.blkSet j hj2 6 (.int .u64 K)).more hl2.out 4 (.func (.func 34) #[.pointer (some ⟨xb, 0, none⟩)] #[])
  obtain ⟨W, HW0, eW⟩ := H3.name
  rw [← eW.out]
  have HW : Has w0 W ((cs.set i (storeC _ sb g l (wrap64 (n + 1)))).set j (dqB _ xb e (bnd 34 xb) b K x o won)) := HW0
  clear H2 H3 HW0 eW y0 y1 y2 y3 y4 y5 y6 y7 y8 y9 fy
  obtain ⟨y0, y1, y2, y3, y4, y5, y6, y7, y8, y9, fy⟩ := row10 (HW.get j (lset_same8 hj2 _))
  have H5 : ∀ nq, Has w0 ((W.drewN nq).setCell ⟨xb, 7, none⟩ (.int .u64 0)) ((cs.set i (storeC _ sb g l (wrap64 (n + 1)))).set j (dqB _ xb e (bnd 34 xb) b K 0 o won)) := fun nq => by
    have H4 := (HW.drewN nq).blkSet j (lset_same8 hj2 _) 7 (.int .u64 0)
    rw [List.set_set] at H4
    exact H4
  go_region_held3 (fun w' => w'.cell? ⟨xb, 3, none⟩ = some (.int .i64 e.room) ∧ w'.cell? ⟨xb, 5, none⟩ = some (.int .u64 b) ∧ w'.cell? ⟨xb, 6, none⟩ = some (.int .u64 K)) (refine ⟨?_, ?_, ?_⟩ <;> (first | (with_reducible assumption) | (simp only [cell_drewN8, cell_drew8]; with_reducible assumption) | ((try simp only [cell_drewN8, cell_drew8]); (repeat (with_reducible refine set_cell8 _ ?_ (by decide))); (first | (with_reducible assumption) | (simp only [cell_drewN8, cell_drew8]; with_reducible assumption))))) (first | (go_at_call 35; refine (Ahead_c _ _ _).mono ?_; rintro r w3 ⟨rfl, d3, rfl⟩))
  all_goals go_wp2_with fail
  all_goals refine (end_h (H5 _) j (lset_same8 hj2 _) 2).mono ?_
  all_goals rintro r w4 ⟨rfl, H6⟩
  all_goals rw [List.set_set] at H6
  all_goals go_wp2_with fail
  all_goals go_end0
  all_goals first | exact ⟨rfl, H6⟩ | exact ⟨rfl, H6.drew⟩ | exact ⟨rfl, H6.drewN _⟩

set_option maxRecDepth 100000 in
set_option maxHeartbeats 2000000 in
theorem pushTop_no1_h (hc : ¬ (enRoom e ≤ wAhead b (mld l e.top))) (hr0 : e.room ≤ 1000) (hr1 : -9223372036854775808 ≤ e.room) (hr : 1 ≤ e.room) :
    Calls Try.prog 31 #[.pointer (some ⟨xb, 0, none⟩), .pointer (some ⟨sb, 0, none⟩)] w fun r w' => r = .returned (.tuple #[]) ∧
      Has w0 w' ((cs.set i (storeC _ sb g l (wrap64 (n + 1)))).set j (dqB _ xb e (bnd 34 xb) b (mld l e.top) x o won)) := by
  obtain ⟨x0, x1, x2, x3, x4, x5, x6, x7, x8, x9, fx⟩ := row10 (H.get j hj)
  have IJ := Lib.hid hij
  clear hij
  have HC := Lib.hid hc
  clear hc
  obtain ⟨K, hK⟩ : ∃ K, K = mld l e.top := ⟨_, rfl⟩
  rw [← hK] at HC ⊢
  have HK := Lib.hid hK
  clear hK
  have hc := HC.out
  have hmx : max e.room 1 = e.room := by omega
  have hqm : enRoom e = e.room := by unfold enRoom; rw [if_pos hr]
  rw [hqm] at hc
  clear hqm
  go_enter Try.func31, Try.ntmps31
  go_wp2_with fail
  refine (Load_h H i hi _).mono ?_
  rw [← HK.out]
  rintro r w2 ⟨rfl, H2⟩
  have hj2 := set_get8 hj (storeC w0.heap.size sb g l (wrap64 (n + 1))) IJ.out
  have hl2 := Lib.hid (List.getElem?_eq_some_iff.1 hj2).1
  obtain ⟨y0, y1, y2, y3, y4, y5, y6, y7, y8, y9, fy⟩ := row10 (H2.get j hj2)
  clear x0 x1 x2 x3 x4 x5 x6 x7 x8 x9 fx
  go_wp2_with fail
  have H3 := (H2.blkSet j hj2 6 (.int .u64 K)).more hl2.out 4 (.func (.func 34) #[.pointer (some ⟨xb, 0, none⟩)] #[])
  obtain ⟨W, HW0, eW⟩ := H3.name
  rw [← eW.out]
  have HW : Has w0 W ((cs.set i (storeC _ sb g l (wrap64 (n + 1)))).set j (dqB _ xb e (bnd 34 xb) b K x o won)) := HW0
  clear H2 H3 HW0 eW y0 y1 y2 y3 y4 y5 y6 y7 y8 y9 fy
  obtain ⟨y0, y1, y2, y3, y4, y5, y6, y7, y8, y9, fy⟩ := row10 (HW.get j (lset_same8 hj2 _))
  go_region_held3 (fun w' => w'.cell? ⟨xb, 3, none⟩ = some (.int .i64 e.room) ∧ w'.cell? ⟨xb, 5, none⟩ = some (.int .u64 b) ∧ w'.cell? ⟨xb, 6, none⟩ = some (.int .u64 K)) (refine ⟨?_, ?_, ?_⟩ <;> (first | (with_reducible assumption) | (simp only [cell_drewN8, cell_drew8]; with_reducible assumption) | ((try simp only [cell_drewN8, cell_drew8]); (repeat (with_reducible refine set_cell8 _ ?_ (by decide))); (first | (with_reducible assumption) | (simp only [cell_drewN8, cell_drew8]; with_reducible assumption))))) (first | (go_at_call 35; refine (Ahead_c _ _ _).mono ?_; rintro r w3 ⟨rfl, d3, rfl⟩))
  all_goals go_wp2_with fail
  all_goals go_end0
  all_goals first | exact ⟨rfl, HW⟩ | exact ⟨rfl, HW.drew⟩ | exact ⟨rfl, HW.drewN _⟩

set_option maxRecDepth 100000 in
set_option maxHeartbeats 2000000 in
theorem pushTop_no0_h (hc : ¬ (enRoom e ≤ wAhead b (mld l e.top))) (hr0 : e.room ≤ 1000) (hr1 : -9223372036854775808 ≤ e.room) (hr : ¬ (1 ≤ e.room)) :
    Calls Try.prog 31 #[.pointer (some ⟨xb, 0, none⟩), .pointer (some ⟨sb, 0, none⟩)] w fun r w' => r = .returned (.tuple #[]) ∧
      Has w0 w' ((cs.set i (storeC _ sb g l (wrap64 (n + 1)))).set j (dqB _ xb e (bnd 34 xb) b (mld l e.top) x o won)) := by
  obtain ⟨x0, x1, x2, x3, x4, x5, x6, x7, x8, x9, fx⟩ := row10 (H.get j hj)
  have IJ := Lib.hid hij
  clear hij
  have HC := Lib.hid hc
  clear hc
  obtain ⟨K, hK⟩ : ∃ K, K = mld l e.top := ⟨_, rfl⟩
  rw [← hK] at HC ⊢
  have HK := Lib.hid hK
  clear hK
  have hc := HC.out
  have hmx : max e.room 1 = 1 := by omega
  have hqm : enRoom e = 1 := by unfold enRoom; rw [if_neg hr]
  rw [hqm] at hc
  clear hqm
  go_enter Try.func31, Try.ntmps31
  go_wp2_with fail
  refine (Load_h H i hi _).mono ?_
  rw [← HK.out]
  rintro r w2 ⟨rfl, H2⟩
  have hj2 := set_get8 hj (storeC w0.heap.size sb g l (wrap64 (n + 1))) IJ.out
  have hl2 := Lib.hid (List.getElem?_eq_some_iff.1 hj2).1
  obtain ⟨y0, y1, y2, y3, y4, y5, y6, y7, y8, y9, fy⟩ := row10 (H2.get j hj2)
  clear x0 x1 x2 x3 x4 x5 x6 x7 x8 x9 fx
  go_wp2_with fail
  have H3 := (H2.blkSet j hj2 6 (.int .u64 K)).more hl2.out 4 (.func (.func 34) #[.pointer (some ⟨xb, 0, none⟩)] #[])
  obtain ⟨W, HW0, eW⟩ := H3.name
  rw [← eW.out]
  have HW : Has w0 W ((cs.set i (storeC _ sb g l (wrap64 (n + 1)))).set j (dqB _ xb e (bnd 34 xb) b K x o won)) := HW0
  clear H2 H3 HW0 eW y0 y1 y2 y3 y4 y5 y6 y7 y8 y9 fy
  obtain ⟨y0, y1, y2, y3, y4, y5, y6, y7, y8, y9, fy⟩ := row10 (HW.get j (lset_same8 hj2 _))
  go_region_held3 (fun w' => w'.cell? ⟨xb, 3, none⟩ = some (.int .i64 e.room) ∧ w'.cell? ⟨xb, 5, none⟩ = some (.int .u64 b) ∧ w'.cell? ⟨xb, 6, none⟩ = some (.int .u64 K)) (refine ⟨?_, ?_, ?_⟩ <;> (first | (with_reducible assumption) | (simp only [cell_drewN8, cell_drew8]; with_reducible assumption) | ((try simp only [cell_drewN8, cell_drew8]); (repeat (with_reducible refine set_cell8 _ ?_ (by decide))); (first | (with_reducible assumption) | (simp only [cell_drewN8, cell_drew8]; with_reducible assumption))))) (first | (go_at_call 35; refine (Ahead_c _ _ _).mono ?_; rintro r w3 ⟨rfl, d3, rfl⟩))
  all_goals go_wp2_with fail
  all_goals go_end0
  all_goals first | exact ⟨rfl, HW⟩ | exact ⟨rfl, HW.drew⟩ | exact ⟨rfl, HW.drewN _⟩

set_option maxRecDepth 100000 in
set_option maxHeartbeats 2000000 in
theorem popTop_yes_h (hc : 0 < wAhead (mld l e.top) b) :
    Calls Try.prog 37 #[.pointer (some ⟨xb, 0, none⟩), .pointer (some ⟨sb, 0, none⟩)] w fun r w' => r = .returned (.tuple #[]) ∧
      Has w0 w' ((cs.set i (storeC _ sb g l (wrap64 (n + 1)))).set j (dqB _ xb e (bnd 42 xb) b (mld l e.top) x o won)) := by
  obtain ⟨x0, x1, x2, x3, x4, x5, x6, x7, x8, x9, fx⟩ := row10 (H.get j hj)
  have IJ := Lib.hid hij
  clear hij
  have HC := Lib.hid hc
  clear hc
  obtain ⟨K, hK⟩ : ∃ K, K = mld l e.top := ⟨_, rfl⟩
  rw [← hK] at HC ⊢
  have HK := Lib.hid hK
  clear hK
  have hc := HC.out
  go_enter Try.func37, Try.ntmps37
  go_wp2_with fail
  refine (Load_h H i hi _).mono ?_
  rw [← HK.out]
  rintro r w2 ⟨rfl, H2⟩
  have hj2 := set_get8 hj (storeC w0.heap.size sb g l (wrap64 (n + 1))) IJ.out
  have hl2 := Lib.hid (List.getElem?_eq_some_iff.1 hj2).1
  obtain ⟨y0, y1, y2, y3, y4, y5, y6, y7, y8, y9, fy⟩ := row10 (H2.get j hj2)
  clear x0 x1 x2 x3 x4 x5 x6 x7 x8 x9 fx
  go_wp2_with fail
  have H3 := (H2.blkSet j hj2 6 (.int .u64 K)).more hl2.out 4 (.func (.func 41) #[.pointer (some ⟨xb, 0, none⟩)] #[])
  obtain ⟨W, HW0, eW⟩ := H3.name
  rw [← eW.out]
  have HW : Has w0 W ((cs.set i (storeC _ sb g l (wrap64 (n + 1)))).set j (dqB _ xb e (bnd 41 xb) b K x o won)) := HW0
  clear H2 H3 HW0 eW y0 y1 y2 y3 y4 y5 y6 y7 y8 y9 fy
  obtain ⟨y0, y1, y2, y3, y4, y5, y6, y7, y8, y9, fy⟩ := row10 (HW.get j (lset_same8 hj2 _))
  go_region_held3 (fun w' => w'.cell? ⟨xb, 5, none⟩ = some (.int .u64 b) ∧ w'.cell? ⟨xb, 6, none⟩ = some (.int .u64 K)) (refine ⟨?_, ?_⟩ <;> (first | (with_reducible assumption) | (simp only [cell_drewN8, cell_drew8]; with_reducible assumption) | ((try simp only [cell_drewN8, cell_drew8]); (repeat (with_reducible refine set_cell8 _ ?_ (by decide))); (first | (with_reducible assumption) | (simp only [cell_drewN8, cell_drew8]; with_reducible assumption))))) (first | (go_at_call 35; refine (Ahead_c _ _ _).mono ?_; rintro r w3 ⟨rfl, d3, rfl⟩))
  all_goals go_wp2_with fail
  go_end0
  have H4 : ∀ nq, Has w0 ((W.drewN nq).setCell ⟨xb, 4, none⟩ (.func (.func 42) #[.pointer (some ⟨xb, 0, none⟩)] #[])) ((cs.set i (storeC _ sb g l (wrap64 (n + 1)))).set j (dqB _ xb e (bnd 42 xb) b K x o won)) := fun nq => by
    have := (HW.drewN nq).blkSet j (lset_same8 hj2 _) 4 (.func (.func 42) #[.pointer (some ⟨xb, 0, none⟩)] #[])
    rw [List.set_set] at this
    exact this
  first | exact ⟨rfl, H4 _⟩ | exact ⟨rfl, (H4 0)⟩ | exact ⟨rfl, (H4 0).drewN _⟩

set_option maxRecDepth 100000 in
set_option maxHeartbeats 2000000 in
theorem popTop_no_h (hc : ¬ (0 < wAhead (mld l e.top) b)) :
    Calls Try.prog 37 #[.pointer (some ⟨xb, 0, none⟩), .pointer (some ⟨sb, 0, none⟩)] w fun r w' => r = .returned (.tuple #[]) ∧
      Has w0 w' ((cs.set i (storeC _ sb g l (wrap64 (n + 1)))).set j (dqB _ xb e (bnd 41 xb) b (mld l e.top) x o won)) := by
  obtain ⟨x0, x1, x2, x3, x4, x5, x6, x7, x8, x9, fx⟩ := row10 (H.get j hj)
  have IJ := Lib.hid hij
  clear hij
  have HC := Lib.hid hc
  clear hc
  obtain ⟨K, hK⟩ : ∃ K, K = mld l e.top := ⟨_, rfl⟩
  rw [← hK] at HC ⊢
  have HK := Lib.hid hK
  clear hK
  have hc := HC.out
  go_enter Try.func37, Try.ntmps37
  go_wp2_with fail
  refine (Load_h H i hi _).mono ?_
  rw [← HK.out]
  rintro r w2 ⟨rfl, H2⟩
  have hj2 := set_get8 hj (storeC w0.heap.size sb g l (wrap64 (n + 1))) IJ.out
  have hl2 := Lib.hid (List.getElem?_eq_some_iff.1 hj2).1
  obtain ⟨y0, y1, y2, y3, y4, y5, y6, y7, y8, y9, fy⟩ := row10 (H2.get j hj2)
  clear x0 x1 x2 x3 x4 x5 x6 x7 x8 x9 fx
  go_wp2_with fail
  have H3 := (H2.blkSet j hj2 6 (.int .u64 K)).more hl2.out 4 (.func (.func 41) #[.pointer (some ⟨xb, 0, none⟩)] #[])
  obtain ⟨W, HW0, eW⟩ := H3.name
  rw [← eW.out]
  have HW : Has w0 W ((cs.set i (storeC _ sb g l (wrap64 (n + 1)))).set j (dqB _ xb e (bnd 41 xb) b K x o won)) := HW0
  clear H2 H3 HW0 eW y0 y1 y2 y3 y4 y5 y6 y7 y8 y9 fy
  obtain ⟨y0, y1, y2, y3, y4, y5, y6, y7, y8, y9, fy⟩ := row10 (HW.get j (lset_same8 hj2 _))
  go_region_held3 (fun w' => w'.cell? ⟨xb, 5, none⟩ = some (.int .u64 b) ∧ w'.cell? ⟨xb, 6, none⟩ = some (.int .u64 K)) (refine ⟨?_, ?_⟩ <;> (first | (with_reducible assumption) | (simp only [cell_drewN8, cell_drew8]; with_reducible assumption) | ((try simp only [cell_drewN8, cell_drew8]); (repeat (with_reducible refine set_cell8 _ ?_ (by decide))); (first | (with_reducible assumption) | (simp only [cell_drewN8, cell_drew8]; with_reducible assumption))))) (first | (go_at_call 35; refine (Ahead_c _ _ _).mono ?_; rintro r w3 ⟨rfl, d3, rfl⟩))
  all_goals go_wp2_with fail
  all_goals go_end0
  all_goals first | exact ⟨rfl, HW⟩ | exact ⟨rfl, HW.drew⟩ | exact ⟨rfl, HW.drewN _⟩

set_option maxRecDepth 100000 in
set_option maxHeartbeats 2000000 in
theorem stealBottom_yes_h (hc : wAhead (mld l e.bottom) t ≤ 0) :
    Calls Try.prog 33 #[.pointer (some ⟨xb, 0, none⟩), .pointer (some ⟨sb, 0, none⟩)] w fun r w' => r = .returned (.tuple #[]) ∧
      Has w0 w' ((cs.set i (storeC _ sb g l (wrap64 (n + 1)))).set j (dqB _ xb e .nilFunc (mld l e.bottom) t x 3 won)) := by
  obtain ⟨x0, x1, x2, x3, x4, x5, x6, x7, x8, x9, fx⟩ := row10 (H.get j hj)
  have IJ := Lib.hid hij
  clear hij
  have HC := Lib.hid hc
  clear hc
  obtain ⟨K, hK⟩ : ∃ K, K = mld l e.bottom := ⟨_, rfl⟩
  rw [← hK] at HC ⊢
  have HK := Lib.hid hK
  clear hK
  have hc := HC.out
  go_enter Try.func33, Try.ntmps33
  go_wp2_with fail
  refine (Load_h H i hi _).mono ?_
  rw [← HK.out]
  rintro r w2 ⟨rfl, H2⟩
  have hj2 := set_get8 hj (storeC w0.heap.size sb g l (wrap64 (n + 1))) IJ.out
  have hl2 := Lib.hid (List.getElem?_eq_some_iff.1 hj2).1
  obtain ⟨y0, y1, y2, y3, y4, y5, y6, y7, y8, y9, fy⟩ := row10 (H2.get j hj2)
  clear x0 x1 x2 x3 x4 x5 x6 x7 x8 x9 fx
  go_wp2_with fail
  have H3 := (H2.blkSet j hj2 5 (.int .u64 K)).more hl2.out 4 (.func (.func 38) #[.pointer (some ⟨xb, 0, none⟩)] #[])
  obtain ⟨W, HW0, eW⟩ := H3.name
  rw [← eW.out]
  have HW : Has w0 W ((cs.set i (storeC _ sb g l (wrap64 (n + 1)))).set j (dqB _ xb e (bnd 38 xb) K t x o won)) := HW0
  clear H2 H3 HW0 eW y0 y1 y2 y3 y4 y5 y6 y7 y8 y9 fy
  obtain ⟨y0, y1, y2, y3, y4, y5, y6, y7, y8, y9, fy⟩ := row10 (HW.get j (lset_same8 hj2 _))
  go_region_held3 (fun w' => w'.cell? ⟨xb, 5, none⟩ = some (.int .u64 K) ∧ w'.cell? ⟨xb, 6, none⟩ = some (.int .u64 t)) (refine ⟨?_, ?_⟩ <;> (first | (with_reducible assumption) | (simp only [cell_drewN8, cell_drew8]; with_reducible assumption) | ((try simp only [cell_drewN8, cell_drew8]); (repeat (with_reducible refine set_cell8 _ ?_ (by decide))); (first | (with_reducible assumption) | (simp only [cell_drewN8, cell_drew8]; with_reducible assumption))))) (first | (go_at_call 35; refine (Ahead_c _ _ _).mono ?_; rintro r w3 ⟨rfl, d3, rfl⟩))
  all_goals go_wp2_with fail
  refine (end_h (HW.drewN _) j (lset_same8 hj2 _) 3).mono ?_
  rintro r w4 ⟨rfl, H6⟩
  rw [List.set_set] at H6
  go_wp2_with fail
  go_end0
  first | exact ⟨rfl, H6⟩ | exact ⟨rfl, (H6).drew⟩ | exact ⟨rfl, (H6).drewN _⟩

set_option maxRecDepth 100000 in
set_option maxHeartbeats 2000000 in
theorem stealBottom_no_h (hc : ¬ (wAhead (mld l e.bottom) t ≤ 0)) :
    Calls Try.prog 33 #[.pointer (some ⟨xb, 0, none⟩), .pointer (some ⟨sb, 0, none⟩)] w fun r w' => r = .returned (.tuple #[]) ∧
      Has w0 w' ((cs.set i (storeC _ sb g l (wrap64 (n + 1)))).set j (dqB _ xb e (bnd 38 xb) (mld l e.bottom) t x o won)) := by
  obtain ⟨x0, x1, x2, x3, x4, x5, x6, x7, x8, x9, fx⟩ := row10 (H.get j hj)
  have IJ := Lib.hid hij
  clear hij
  have HC := Lib.hid hc
  clear hc
  obtain ⟨K, hK⟩ : ∃ K, K = mld l e.bottom := ⟨_, rfl⟩
  rw [← hK] at HC ⊢
  have HK := Lib.hid hK
  clear hK
  have hc := HC.out
  go_enter Try.func33, Try.ntmps33
  go_wp2_with fail
  refine (Load_h H i hi _).mono ?_
  rw [← HK.out]
  rintro r w2 ⟨rfl, H2⟩
  have hj2 := set_get8 hj (storeC w0.heap.size sb g l (wrap64 (n + 1))) IJ.out
  have hl2 := Lib.hid (List.getElem?_eq_some_iff.1 hj2).1
  obtain ⟨y0, y1, y2, y3, y4, y5, y6, y7, y8, y9, fy⟩ := row10 (H2.get j hj2)
  clear x0 x1 x2 x3 x4 x5 x6 x7 x8 x9 fx
  go_wp2_with fail
  have H3 := (H2.blkSet j hj2 5 (.int .u64 K)).more hl2.out 4 (.func (.func 38) #[.pointer (some ⟨xb, 0, none⟩)] #[])
  obtain ⟨W, HW0, eW⟩ := H3.name
  rw [← eW.out]
  have HW : Has w0 W ((cs.set i (storeC _ sb g l (wrap64 (n + 1)))).set j (dqB _ xb e (bnd 38 xb) K t x o won)) := HW0
  clear H2 H3 HW0 eW y0 y1 y2 y3 y4 y5 y6 y7 y8 y9 fy
  obtain ⟨y0, y1, y2, y3, y4, y5, y6, y7, y8, y9, fy⟩ := row10 (HW.get j (lset_same8 hj2 _))
  go_region_held3 (fun w' => w'.cell? ⟨xb, 5, none⟩ = some (.int .u64 K) ∧ w'.cell? ⟨xb, 6, none⟩ = some (.int .u64 t)) (refine ⟨?_, ?_⟩ <;> (first | (with_reducible assumption) | (simp only [cell_drewN8, cell_drew8]; with_reducible assumption) | ((try simp only [cell_drewN8, cell_drew8]); (repeat (with_reducible refine set_cell8 _ ?_ (by decide))); (first | (with_reducible assumption) | (simp only [cell_drewN8, cell_drew8]; with_reducible assumption))))) (first | (go_at_call 35; refine (Ahead_c _ _ _).mono ?_; rintro r w3 ⟨rfl, d3, rfl⟩))
  all_goals go_wp2_with fail
  all_goals go_end0
  all_goals first | exact ⟨rfl, HW⟩ | exact ⟨rfl, HW.drew⟩ | exact ⟨rfl, HW.drewN _⟩

set_option maxRecDepth 100000 in
set_option maxHeartbeats 2000000 in
theorem pushEntry_h (ok : EnOk e) (b0 : 0 ≤ b) (b1 : b < 18446744073709551616) :
    Calls Try.prog 34 #[.pointer (some ⟨xb, 0, none⟩), .pointer (some ⟨sb, 0, none⟩)] w fun r w' => r = .returned (.tuple #[]) ∧
      Has w0 w' ((cs.set i (storeC _ sb g (mput l (enAt e b) x) (wrap64 (n + 1)))).set j (dqB _ xb e (bnd 40 xb) b t x o won)) := by
  obtain ⟨x0, x1, x2, x3, x4, x5, x6, x7, x8, x9, fx⟩ := row10 (H.get j hj)
  have IJ := Lib.hid hij
  clear hij
  go_enter Try.func34, Try.ntmps34
  go_wp2_with fail
  go_region_held3 (fun w' => w'.cell? ⟨xb, 0, none⟩ = some (.int .i64 e.top) ∧ w'.cell? ⟨xb, 1, none⟩ = some (.int .i64 e.bottom) ∧ w'.cell? ⟨xb, 2, none⟩ = some (.int .i64 e.entry) ∧ w'.cell? ⟨xb, 3, none⟩ = some (.int .i64 e.room) ∧ w'.cell? ⟨xb, 5, none⟩ = some (.int .u64 b) ∧ w'.cell? ⟨xb, 7, none⟩ = some (.int .u64 x)) (refine ⟨?_, ?_, ?_, ?_, ?_, ?_⟩ <;> (first | (with_reducible assumption) | (simp only [cell_drewN8, cell_drew8]; with_reducible assumption) | ((try simp only [cell_drewN8, cell_drew8]); (repeat (with_reducible refine set_cell8 _ ?_ (by decide))); (first | (with_reducible assumption) | (simp only [cell_drewN8, cell_drew8]; with_reducible assumption))))) (first | (go_at_call 39; refine (entry_c e b ok b0 b1 _).mono ?_; rintro r w3 ⟨rfl, q3⟩; have H1 := (H.drewN _).up q3; obtain ⟨z0, z1, z2, z3, z4, z5, z6, z7, z8, z9, fz⟩ := row10 (H1.get j hj)) | (go_at_call 18; refine (Put_h (by first | exact H1 | exact H1.drewN _) i hi _ x).mono ?_; rintro r w2 ⟨rfl, H2⟩; obtain ⟨y0, y1, y2, y3, y4, y5, y6, y7, y8, y9, fy⟩ := row10 (H2.get j (set_get8 hj _ IJ.out))))
  have hj2 := set_get8 hj (storeC w0.heap.size sb g (mput l (enAt e b) x) (wrap64 (n + 1))) IJ.out
  have hl2 := Lib.hid (List.getElem?_eq_some_iff.1 hj2).1
  all_goals go_wp2_with fail
  go_end0
  first | exact ⟨rfl, H2.blkSet j hj2 4 (.func (.func 40) #[.pointer (some ⟨xb, 0, none⟩)] #[])⟩ | exact ⟨rfl, (H2.blkSet j hj2 4 (.func (.func 40) #[.pointer (some ⟨xb, 0, none⟩)] #[])).drew⟩ | exact ⟨rfl, (H2.blkSet j hj2 4 (.func (.func 40) #[.pointer (some ⟨xb, 0, none⟩)] #[])).drewN _⟩

set_option maxRecDepth 100000 in
set_option maxHeartbeats 2000000 in
theorem pushEnd_h  :
    Calls Try.prog 40 #[.pointer (some ⟨xb, 0, none⟩), .pointer (some ⟨sb, 0, none⟩)] w fun r w' => r = .returned (.tuple #[]) ∧
      Has w0 w' ((cs.set i (storeC _ sb g (mput l e.bottom (wu (b + 1))) (wrap64 (n + 1)))).set j (dqB _ xb e .nilFunc b t 0 1 won)) := by
  obtain ⟨x0, x1, x2, x3, x4, x5, x6, x7, x8, x9, fx⟩ := row10 (H.get j hj)
  have IJ := Lib.hid hij
  clear hij
  go_enter Try.func40, Try.ntmps40
  go_wp2_with fail
  go_region_held3 (fun w' => w'.cell? ⟨xb, 1, none⟩ = some (.int .i64 e.bottom) ∧ w'.cell? ⟨xb, 5, none⟩ = some (.int .u64 b)) (refine ⟨?_, ?_⟩ <;> (first | (with_reducible assumption) | (simp only [cell_drewN8, cell_drew8]; with_reducible assumption) | ((try simp only [cell_drewN8, cell_drew8]); (repeat (with_reducible refine set_cell8 _ ?_ (by decide))); (first | (with_reducible assumption) | (simp only [cell_drewN8, cell_drew8]; with_reducible assumption))))) (first | (go_at_call 18; refine (Put_h (H.drewN _) i hi _ _).mono ?_; rintro r w2 ⟨rfl, H2⟩; obtain ⟨y0, y1, y2, y3, y4, y5, y6, y7, y8, y9, fy⟩ := row10 (H2.get j (set_get8 hj _ IJ.out))))
  have hj2 := set_get8 hj (storeC w0.heap.size sb g (mput l e.bottom (wu (b + 1))) (wrap64 (n + 1))) IJ.out
  have hl2 := Lib.hid (List.getElem?_eq_some_iff.1 hj2).1
  all_goals go_wp2_with fail
  have H3 : Has w0 _ ((cs.set i (storeC _ sb g (mput l e.bottom (wu (b + 1))) (wrap64 (n + 1)))).set j (dqB _ xb e nx b t 0 o won)) := H2.blkSet j hj2 7 (.int .u64 0)
  refine (end_h (by first | exact H3 | exact H3.drew | exact H3.drewN _) j (lset_same8 hj2 _) 1).mono ?_
  rintro r w4 ⟨rfl, H6⟩
  rw [List.set_set] at H6
  go_wp2_with fail
  go_end0
  first | exact ⟨rfl, H6⟩ | exact ⟨rfl, (H6).drew⟩ | exact ⟨rfl, (H6).drewN _⟩

set_option maxRecDepth 100000 in
set_option maxHeartbeats 2000000 in
theorem popDown_h  :
    Calls Try.prog 32 #[.pointer (some ⟨xb, 0, none⟩), .pointer (some ⟨sb, 0, none⟩)] w fun r w' => r = .returned (.tuple #[]) ∧
      Has w0 w' ((cs.set i (storeC _ sb g (mput l e.bottom b) (wrap64 (n + 1)))).set j (dqB _ xb e (bnd 37 xb) b t x o won)) := by
  obtain ⟨x0, x1, x2, x3, x4, x5, x6, x7, x8, x9, fx⟩ := row10 (H.get j hj)
  have IJ := Lib.hid hij
  clear hij
  go_enter Try.func32, Try.ntmps32
  go_wp2_with fail
  go_region_held3 (fun w' => w'.cell? ⟨xb, 1, none⟩ = some (.int .i64 e.bottom) ∧ w'.cell? ⟨xb, 5, none⟩ = some (.int .u64 b)) (refine ⟨?_, ?_⟩ <;> (first | (with_reducible assumption) | (simp only [cell_drewN8, cell_drew8]; with_reducible assumption) | ((try simp only [cell_drewN8, cell_drew8]); (repeat (with_reducible refine set_cell8 _ ?_ (by decide))); (first | (with_reducible assumption) | (simp only [cell_drewN8, cell_drew8]; with_reducible assumption))))) (first | (go_at_call 18; refine (Put_h (H.drewN _) i hi _ _).mono ?_; rintro r w2 ⟨rfl, H2⟩; obtain ⟨y0, y1, y2, y3, y4, y5, y6, y7, y8, y9, fy⟩ := row10 (H2.get j (set_get8 hj _ IJ.out))))
  have hj2 := set_get8 hj (storeC w0.heap.size sb g (mput l e.bottom b) (wrap64 (n + 1))) IJ.out
  have hl2 := Lib.hid (List.getElem?_eq_some_iff.1 hj2).1
  all_goals go_wp2_with fail
  go_end0
  first | exact ⟨rfl, H2.blkSet j hj2 4 (.func (.func 37) #[.pointer (some ⟨xb, 0, none⟩)] #[])⟩ | exact ⟨rfl, (H2.blkSet j hj2 4 (.func (.func 37) #[.pointer (some ⟨xb, 0, none⟩)] #[])).drew⟩ | exact ⟨rfl, (H2.blkSet j hj2 4 (.func (.func 37) #[.pointer (some ⟨xb, 0, none⟩)] #[])).drewN _⟩

set_option maxRecDepth 100000 in
set_option maxHeartbeats 2000000 in
theorem popEntry_yes_h (ok : EnOk e) (b0 : 0 ≤ b) (b1 : b < 18446744073709551616) (hc : 0 < wAhead b t) :
    Calls Try.prog 41 #[.pointer (some ⟨xb, 0, none⟩), .pointer (some ⟨sb, 0, none⟩)] w fun r w' => r = .returned (.tuple #[]) ∧
      Has w0 w' ((cs.set i (storeC _ sb g l (wrap64 (n + 1)))).set j (dqB _ xb e .nilFunc b t (mld l (enAt e b)) 1 won)) := by
  obtain ⟨x0, x1, x2, x3, x4, x5, x6, x7, x8, x9, fx⟩ := row10 (H.get j hj)
  have IJ := Lib.hid hij
  clear hij
  obtain ⟨K, hK⟩ : ∃ K, K = mld l (enAt e b) := ⟨_, rfl⟩
  rw [← hK]
  have HK := Lib.hid hK
  clear hK
  go_enter Try.func41, Try.ntmps41
  go_wp2_with fail
  go_region_held3 (fun w' => w'.cell? ⟨xb, 0, none⟩ = some (.int .i64 e.top) ∧ w'.cell? ⟨xb, 1, none⟩ = some (.int .i64 e.bottom) ∧ w'.cell? ⟨xb, 2, none⟩ = some (.int .i64 e.entry) ∧ w'.cell? ⟨xb, 3, none⟩ = some (.int .i64 e.room) ∧ w'.cell? ⟨xb, 5, none⟩ = some (.int .u64 b)) (refine ⟨?_, ?_, ?_, ?_, ?_⟩ <;> (first | (with_reducible assumption) | (simp only [cell_drewN8, cell_drew8]; with_reducible assumption) | ((try simp only [cell_drewN8, cell_drew8]); (repeat (with_reducible refine set_cell8 _ ?_ (by decide))); (first | (with_reducible assumption) | (simp only [cell_drewN8, cell_drew8]; with_reducible assumption))))) (first | (go_at_call 39; refine (entry_c e b ok b0 b1 _).mono ?_; rintro r w3 ⟨rfl, q3⟩; have H1 := (H.drewN _).up q3; obtain ⟨z0, z1, z2, z3, z4, z5, z6, z7, z8, z9, fz⟩ := row10 (H1.get j hj)) | (go_at_call 16; refine (Load_h (by first | exact H1 | exact H1.drewN _) i hi _).mono ?_; rw [← HK.out]; rintro r w2 ⟨rfl, H2⟩; obtain ⟨y0, y1, y2, y3, y4, y5, y6, y7, y8, y9, fy⟩ := row10 (H2.get j (set_get8 hj _ IJ.out))))
  have hj2 := set_get8 hj (storeC w0.heap.size sb g l (wrap64 (n + 1))) IJ.out
  have hl2 := Lib.hid (List.getElem?_eq_some_iff.1 hj2).1
  all_goals go_wp2_with fail
  have H3 := ((H2.blkSet j hj2 7 (.int .u64 K)).more hl2.out 4 (.func (.func 44) #[.pointer (some ⟨xb, 0, none⟩)] #[]))
  have H3' : Has w0 _ ((cs.set i (storeC _ sb g l (wrap64 (n + 1)))).set j (dqB _ xb e (bnd 44 xb) b t K o won)) := H3
  obtain ⟨W, HW, eW⟩ := H3'.name
  first | rw [← eW.out] | trace_state
  clear H2 H3 H3' eW y0 y1 y2 y3 y4 y5 y6 y7 y8 y9 fy x0 x1 x2 x3 x4 x5 x6 x7 x8 x9 fx
  obtain ⟨y0, y1, y2, y3, y4, y5, y6, y7, y8, y9, fy⟩ := row10 (HW.get j (lset_same8 hj2 _))
  go_region_held3 (fun w' => w'.cell? ⟨xb, 5, none⟩ = some (.int .u64 b) ∧ w'.cell? ⟨xb, 6, none⟩ = some (.int .u64 t)) (refine ⟨?_, ?_⟩ <;> (first | (with_reducible assumption) | (simp only [cell_drewN8, cell_drew8]; with_reducible assumption) | ((try simp only [cell_drewN8, cell_drew8]); (repeat (with_reducible refine set_cell8 _ ?_ (by decide))); (first | (with_reducible assumption) | (simp only [cell_drewN8, cell_drew8]; with_reducible assumption))))) (first | (go_at_call 35; refine (Ahead_c _ _ _).mono ?_; rintro r w3 ⟨rfl, d3, rfl⟩))
  all_goals go_wp2_with fail
  refine (end_h (HW.drewN _) j (lset_same8 hj2 _) 1).mono ?_
  rintro r w4 ⟨rfl, H6⟩
  rw [List.set_set] at H6
  go_wp2_with fail
  go_end0
  first | exact ⟨rfl, H6⟩ | exact ⟨rfl, (H6).drew⟩ | exact ⟨rfl, (H6).drewN _⟩

set_option maxRecDepth 100000 in
set_option maxHeartbeats 2000000 in
theorem popEntry_no_h (ok : EnOk e) (b0 : 0 ≤ b) (b1 : b < 18446744073709551616) (hc : ¬ (0 < wAhead b t)) :
    Calls Try.prog 41 #[.pointer (some ⟨xb, 0, none⟩), .pointer (some ⟨sb, 0, none⟩)] w fun r w' => r = .returned (.tuple #[]) ∧
      Has w0 w' ((cs.set i (storeC _ sb g l (wrap64 (n + 1)))).set j (dqB _ xb e (bnd 44 xb) b t (mld l (enAt e b)) o won)) := by
  obtain ⟨x0, x1, x2, x3, x4, x5, x6, x7, x8, x9, fx⟩ := row10 (H.get j hj)
  have IJ := Lib.hid hij
  clear hij
  obtain ⟨K, hK⟩ : ∃ K, K = mld l (enAt e b) := ⟨_, rfl⟩
  rw [← hK]
  have HK := Lib.hid hK
  clear hK
  go_enter Try.func41, Try.ntmps41
  go_wp2_with fail
  go_region_held3 (fun w' => w'.cell? ⟨xb, 0, none⟩ = some (.int .i64 e.top) ∧ w'.cell? ⟨xb, 1, none⟩ = some (.int .i64 e.bottom) ∧ w'.cell? ⟨xb, 2, none⟩ = some (.int .i64 e.entry) ∧ w'.cell? ⟨xb, 3, none⟩ = some (.int .i64 e.room) ∧ w'.cell? ⟨xb, 5, none⟩ = some (.int .u64 b)) (refine ⟨?_, ?_, ?_, ?_, ?_⟩ <;> (first | (with_reducible assumption) | (simp only [cell_drewN8, cell_drew8]; with_reducible assumption) | ((try simp only [cell_drewN8, cell_drew8]); (repeat (with_reducible refine set_cell8 _ ?_ (by decide))); (first | (with_reducible assumption) | (simp only [cell_drewN8, cell_drew8]; with_reducible assumption))))) (first | (go_at_call 39; refine (entry_c e b ok b0 b1 _).mono ?_; rintro r w3 ⟨rfl, q3⟩; have H1 := (H.drewN _).up q3; obtain ⟨z0, z1, z2, z3, z4, z5, z6, z7, z8, z9, fz⟩ := row10 (H1.get j hj)) | (go_at_call 16; refine (Load_h (by first | exact H1 | exact H1.drewN _) i hi _).mono ?_; rw [← HK.out]; rintro r w2 ⟨rfl, H2⟩; obtain ⟨y0, y1, y2, y3, y4, y5, y6, y7, y8, y9, fy⟩ := row10 (H2.get j (set_get8 hj _ IJ.out))))
  have hj2 := set_get8 hj (storeC w0.heap.size sb g l (wrap64 (n + 1))) IJ.out
  have hl2 := Lib.hid (List.getElem?_eq_some_iff.1 hj2).1
  all_goals go_wp2_with fail
  have H3 := ((H2.blkSet j hj2 7 (.int .u64 K)).more hl2.out 4 (.func (.func 44) #[.pointer (some ⟨xb, 0, none⟩)] #[]))
  have H3' : Has w0 _ ((cs.set i (storeC _ sb g l (wrap64 (n + 1)))).set j (dqB _ xb e (bnd 44 xb) b t K o won)) := H3
  obtain ⟨W, HW, eW⟩ := H3'.name
  first | rw [← eW.out] | trace_state
  clear H2 H3 H3' eW y0 y1 y2 y3 y4 y5 y6 y7 y8 y9 fy x0 x1 x2 x3 x4 x5 x6 x7 x8 x9 fx
  obtain ⟨y0, y1, y2, y3, y4, y5, y6, y7, y8, y9, fy⟩ := row10 (HW.get j (lset_same8 hj2 _))
  go_region_held3 (fun w' => w'.cell? ⟨xb, 5, none⟩ = some (.int .u64 b) ∧ w'.cell? ⟨xb, 6, none⟩ = some (.int .u64 t)) (refine ⟨?_, ?_⟩ <;> (first | (with_reducible assumption) | (simp only [cell_drewN8, cell_drew8]; with_reducible assumption) | ((try simp only [cell_drewN8, cell_drew8]); (repeat (with_reducible refine set_cell8 _ ?_ (by decide))); (first | (with_reducible assumption) | (simp only [cell_drewN8, cell_drew8]; with_reducible assumption))))) (first | (go_at_call 35; refine (Ahead_c _ _ _).mono ?_; rintro r w3 ⟨rfl, d3, rfl⟩))
  all_goals go_wp2_with fail
  go_end0
  first | exact ⟨rfl, HW⟩ | exact ⟨rfl, (HW).drew⟩ | exact ⟨rfl, (HW).drewN _⟩

set_option maxRecDepth 100000 in
set_option maxHeartbeats 2000000 in
theorem stealEntry_h (ok : EnOk e) (t0 : 0 ≤ t) (t1 : t < 18446744073709551616) :
    Calls Try.prog 38 #[.pointer (some ⟨xb, 0, none⟩), .pointer (some ⟨sb, 0, none⟩)] w fun r w' => r = .returned (.tuple #[]) ∧
      Has w0 w' ((cs.set i (storeC _ sb g l (wrap64 (n + 1)))).set j (dqB _ xb e (bnd 43 xb) b t (mld l (enAt e t)) o won)) := by
  obtain ⟨x0, x1, x2, x3, x4, x5, x6, x7, x8, x9, fx⟩ := row10 (H.get j hj)
  have IJ := Lib.hid hij
  clear hij
  obtain ⟨K, hK⟩ : ∃ K, K = mld l (enAt e t) := ⟨_, rfl⟩
  rw [← hK]
  have HK := Lib.hid hK
  clear hK
  go_enter Try.func38, Try.ntmps38
  go_wp2_with fail
  go_region_held3 (fun w' => w'.cell? ⟨xb, 0, none⟩ = some (.int .i64 e.top) ∧ w'.cell? ⟨xb, 1, none⟩ = some (.int .i64 e.bottom) ∧ w'.cell? ⟨xb, 2, none⟩ = some (.int .i64 e.entry) ∧ w'.cell? ⟨xb, 3, none⟩ = some (.int .i64 e.room) ∧ w'.cell? ⟨xb, 6, none⟩ = some (.int .u64 t)) (refine ⟨?_, ?_, ?_, ?_, ?_⟩ <;> (first | (with_reducible assumption) | (simp only [cell_drewN8, cell_drew8]; with_reducible assumption) | ((try simp only [cell_drewN8, cell_drew8]); (repeat (with_reducible refine set_cell8 _ ?_ (by decide))); (first | (with_reducible assumption) | (simp only [cell_drewN8, cell_drew8]; with_reducible assumption))))) (first | (go_at_call 39; refine (entry_c e t ok t0 t1 _).mono ?_; rintro r w3 ⟨rfl, q3⟩; have H1 := (H.drewN _).up q3; obtain ⟨z0, z1, z2, z3, z4, z5, z6, z7, z8, z9, fz⟩ := row10 (H1.get j hj)) | (go_at_call 16; refine (Load_h (by first | exact H1 | exact H1.drewN _) i hi _).mono ?_; rw [← HK.out]; rintro r w2 ⟨rfl, H2⟩; obtain ⟨y0, y1, y2, y3, y4, y5, y6, y7, y8, y9, fy⟩ := row10 (H2.get j (set_get8 hj _ IJ.out))))
  have hj2 := set_get8 hj (storeC w0.heap.size sb g l (wrap64 (n + 1))) IJ.out
  have hl2 := Lib.hid (List.getElem?_eq_some_iff.1 hj2).1
  all_goals go_wp2_with fail
  go_end0
  first | exact ⟨rfl, (H2.blkSet j hj2 7 (.int .u64 K)).more hl2.out 4 (.func (.func 43) #[.pointer (some ⟨xb, 0, none⟩)] #[])⟩ | exact ⟨rfl, ((H2.blkSet j hj2 7 (.int .u64 K)).more hl2.out 4 (.func (.func 43) #[.pointer (some ⟨xb, 0, none⟩)] #[])).drew⟩ | exact ⟨rfl, ((H2.blkSet j hj2 7 (.int .u64 K)).more hl2.out 4 (.func (.func 43) #[.pointer (some ⟨xb, 0, none⟩)] #[])).drewN _⟩

set_option maxRecDepth 100000 in
set_option maxHeartbeats 2000000 in
theorem popSwap_h  :
    Calls Try.prog 44 #[.pointer (some ⟨xb, 0, none⟩), .pointer (some ⟨sb, 0, none⟩)] w fun r w' => r = .returned (.tuple #[]) ∧
      Has w0 w' ((cs.set i (storeC _ sb g (mswap l e.top t (wu (t + 1))) (wrap64 (n + 1)))).set j (dqB _ xb e (bnd 42 xb) b t x o (mswapped l e.top t))) := by
  obtain ⟨x0, x1, x2, x3, x4, x5, x6, x7, x8, x9, fx⟩ := row10 (H.get j hj)
  have IJ := Lib.hid hij
  clear hij
  obtain ⟨K, hK⟩ : ∃ K, K = mswapped l e.top t := ⟨_, rfl⟩
  rw [← hK]
  have HK := Lib.hid hK
  clear hK
  go_enter Try.func44, Try.ntmps44
  go_wp2_with fail
  go_region_held3 (fun w' => w'.cell? ⟨xb, 0, none⟩ = some (.int .i64 e.top) ∧ w'.cell? ⟨xb, 6, none⟩ = some (.int .u64 t)) (refine ⟨?_, ?_⟩ <;> (first | (with_reducible assumption) | (simp only [cell_drewN8, cell_drew8]; with_reducible assumption) | ((try simp only [cell_drewN8, cell_drew8]); (repeat (with_reducible refine set_cell8 _ ?_ (by decide))); (first | (with_reducible assumption) | (simp only [cell_drewN8, cell_drew8]; with_reducible assumption))))) (first | (go_at_call 45; refine (Swap_h (H.drewN _) i hi _ _ _).mono ?_; rw [← HK.out]; rintro r w2 ⟨rfl, H2⟩; obtain ⟨y0, y1, y2, y3, y4, y5, y6, y7, y8, y9, fy⟩ := row10 (H2.get j (set_get8 hj _ IJ.out))))
  have hj2 := set_get8 hj (storeC w0.heap.size sb g (mswap l e.top t (wu (t + 1))) (wrap64 (n + 1))) IJ.out
  have hl2 := Lib.hid (List.getElem?_eq_some_iff.1 hj2).1
  all_goals go_wp2_with fail
  go_end0
  first | exact ⟨rfl, (H2.blkSet j hj2 9 (.bool K)).more hl2.out 4 (.func (.func 42) #[.pointer (some ⟨xb, 0, none⟩)] #[])⟩ | exact ⟨rfl, ((H2.blkSet j hj2 9 (.bool K)).more hl2.out 4 (.func (.func 42) #[.pointer (some ⟨xb, 0, none⟩)] #[])).drew⟩ | exact ⟨rfl, ((H2.blkSet j hj2 9 (.bool K)).more hl2.out 4 (.func (.func 42) #[.pointer (some ⟨xb, 0, none⟩)] #[])).drewN _⟩

set_option maxRecDepth 100000 in
set_option maxHeartbeats 2000000 in
theorem stealSwap_yes_h (hc : mswapped l e.top t = true) :
    Calls Try.prog 43 #[.pointer (some ⟨xb, 0, none⟩), .pointer (some ⟨sb, 0, none⟩)] w fun r w' => r = .returned (.tuple #[]) ∧
      Has w0 w' ((cs.set i (storeC _ sb g (mswap l e.top t (wu (t + 1))) (wrap64 (n + 1)))).set j (dqB _ xb e .nilFunc b t x 1 won)) := by
  obtain ⟨x0, x1, x2, x3, x4, x5, x6, x7, x8, x9, fx⟩ := row10 (H.get j hj)
  have IJ := Lib.hid hij
  clear hij
  have HC := Lib.hid hc
  clear hc
  go_enter Try.func43, Try.ntmps43
  go_wp2_with fail
  go_region_held3 (fun w' => w'.cell? ⟨xb, 0, none⟩ = some (.int .i64 e.top) ∧ w'.cell? ⟨xb, 6, none⟩ = some (.int .u64 t)) (refine ⟨?_, ?_⟩ <;> (first | (with_reducible assumption) | (simp only [cell_drewN8, cell_drew8]; with_reducible assumption) | ((try simp only [cell_drewN8, cell_drew8]); (repeat (with_reducible refine set_cell8 _ ?_ (by decide))); (first | (with_reducible assumption) | (simp only [cell_drewN8, cell_drew8]; with_reducible assumption))))) (first | (go_at_call 45; refine (Swap_h (H.drewN _) i hi _ _ _).mono ?_; rw [HC.out]; rintro r w2 ⟨rfl, H2⟩; obtain ⟨y0, y1, y2, y3, y4, y5, y6, y7, y8, y9, fy⟩ := row10 (H2.get j (set_get8 hj _ IJ.out))))
  have hj2 := set_get8 hj (storeC w0.heap.size sb g (mswap l e.top t (wu (t + 1))) (wrap64 (n + 1))) IJ.out
  have hl2 := Lib.hid (List.getElem?_eq_some_iff.1 hj2).1
  all_goals go_wp2_with fail
  refine (end_h (by first | exact H2 | exact H2.drew | exact H2.drewN _) j hj2 1).mono ?_
  rintro r w4 ⟨rfl, H6⟩
  go_wp2_with fail
  refine bodyPost_ret (v := .tuple #[]) (by simp [results, Try.results43]) rfl ?_
  first | exact ⟨rfl, H6⟩ | exact ⟨rfl, (H6).drew⟩ | exact ⟨rfl, (H6).drewN _⟩

set_option maxRecDepth 100000 in
set_option maxHeartbeats 2000000 in
theorem stealSwap_no_h (hc : mswapped l e.top t = false) :
    Calls Try.prog 43 #[.pointer (some ⟨xb, 0, none⟩), .pointer (some ⟨sb, 0, none⟩)] w fun r w' => r = .returned (.tuple #[]) ∧
      Has w0 w' ((cs.set i (storeC _ sb g (mswap l e.top t (wu (t + 1))) (wrap64 (n + 1)))).set j (dqB _ xb e .nilFunc b t 0 4 won)) := by
  obtain ⟨x0, x1, x2, x3, x4, x5, x6, x7, x8, x9, fx⟩ := row10 (H.get j hj)
  have IJ := Lib.hid hij
  clear hij
  have HC := Lib.hid hc
  clear hc
  go_enter Try.func43, Try.ntmps43
  go_wp2_with fail
  go_region_held3 (fun w' => w'.cell? ⟨xb, 0, none⟩ = some (.int .i64 e.top) ∧ w'.cell? ⟨xb, 6, none⟩ = some (.int .u64 t)) (refine ⟨?_, ?_⟩ <;> (first | (with_reducible assumption) | (simp only [cell_drewN8, cell_drew8]; with_reducible assumption) | ((try simp only [cell_drewN8, cell_drew8]); (repeat (with_reducible refine set_cell8 _ ?_ (by decide))); (first | (with_reducible assumption) | (simp only [cell_drewN8, cell_drew8]; with_reducible assumption))))) (first | (go_at_call 45; refine (Swap_h (H.drewN _) i hi _ _ _).mono ?_; rw [HC.out]; rintro r w2 ⟨rfl, H2⟩; obtain ⟨y0, y1, y2, y3, y4, y5, y6, y7, y8, y9, fy⟩ := row10 (H2.get j (set_get8 hj _ IJ.out))))
  have hj2 := set_get8 hj (storeC w0.heap.size sb g (mswap l e.top t (wu (t + 1))) (wrap64 (n + 1))) IJ.out
  have hl2 := Lib.hid (List.getElem?_eq_some_iff.1 hj2).1
  all_goals go_wp2_with fail
  have H3 : Has w0 _ ((cs.set i (storeC _ sb g (mswap l e.top t (wu (t + 1))) (wrap64 (n + 1)))).set j (dqB _ xb e nx b t 0 o won)) := H2.blkSet j hj2 7 (.int .u64 0)
  refine (end_h (by first | exact H3 | exact H3.drew | exact H3.drewN _) j (lset_same8 hj2 _) 4).mono ?_
  rintro r w4 ⟨rfl, H6⟩
  rw [List.set_set] at H6
  go_wp2_with fail
  go_end0
  first | exact ⟨rfl, H6⟩ | exact ⟨rfl, (H6).drew⟩ | exact ⟨rfl, (H6).drewN _⟩

set_option maxRecDepth 100000 in
set_option maxHeartbeats 2000000 in
theorem popBack_yes_h (hc : won = true) :
    Calls Try.prog 42 #[.pointer (some ⟨xb, 0, none⟩), .pointer (some ⟨sb, 0, none⟩)] w fun r w' => r = .returned (.tuple #[]) ∧
      Has w0 w' ((cs.set i (storeC _ sb g (mput l e.bottom (wu (b + 1))) (wrap64 (n + 1)))).set j (dqB _ xb e .nilFunc b t x 1 won)) := by
  obtain ⟨x0, x1, x2, x3, x4, x5, x6, x7, x8, x9, fx⟩ := row10 (H.get j hj)
  rw [hc] at x9
  have HC := Lib.hid hc
  clear hc
  have IJ := Lib.hid hij
  clear hij
  go_enter Try.func42, Try.ntmps42
  go_wp2_with fail
  go_region_held3 (fun w' => w'.cell? ⟨xb, 1, none⟩ = some (.int .i64 e.bottom) ∧ w'.cell? ⟨xb, 5, none⟩ = some (.int .u64 b)) (refine ⟨?_, ?_⟩ <;> (first | (with_reducible assumption) | (simp only [cell_drewN8, cell_drew8]; with_reducible assumption) | ((try simp only [cell_drewN8, cell_drew8]); (repeat (with_reducible refine set_cell8 _ ?_ (by decide))); (first | (with_reducible assumption) | (simp only [cell_drewN8, cell_drew8]; with_reducible assumption))))) (first | (go_at_call 18; refine (Put_h (H.drewN _) i hi _ _).mono ?_; rintro r w2 ⟨rfl, H2⟩; obtain ⟨y0, y1, y2, y3, y4, y5, y6, y7, y8, y9, fy⟩ := row10 (H2.get j (set_get8 hj _ IJ.out)); rw [HC.out] at y9))
  have hj2 := set_get8 hj (storeC w0.heap.size sb g (mput l e.bottom (wu (b + 1))) (wrap64 (n + 1))) IJ.out
  have hl2 := Lib.hid (List.getElem?_eq_some_iff.1 hj2).1
  all_goals go_wp2_with fail
  refine (end_h (by first | exact H2 | exact H2.drew | exact H2.drewN _) j hj2 1).mono ?_
  rintro r w4 ⟨rfl, H6⟩
  go_wp2_with fail
  refine bodyPost_ret (v := .tuple #[]) (by simp [results, Try.results42]) rfl ?_
  first | exact ⟨rfl, H6⟩ | exact ⟨rfl, (H6).drew⟩ | exact ⟨rfl, (H6).drewN _⟩

set_option maxRecDepth 100000 in
set_option maxHeartbeats 2000000 in
theorem popBack_no_h (hc : won = false) :
    Calls Try.prog 42 #[.pointer (some ⟨xb, 0, none⟩), .pointer (some ⟨sb, 0, none⟩)] w fun r w' => r = .returned (.tuple #[]) ∧
      Has w0 w' ((cs.set i (storeC _ sb g (mput l e.bottom (wu (b + 1))) (wrap64 (n + 1)))).set j (dqB _ xb e .nilFunc b t 0 3 won)) := by
  obtain ⟨x0, x1, x2, x3, x4, x5, x6, x7, x8, x9, fx⟩ := row10 (H.get j hj)
  rw [hc] at x9
  have HC := Lib.hid hc
  clear hc
  have IJ := Lib.hid hij
  clear hij
  go_enter Try.func42, Try.ntmps42
  go_wp2_with fail
  go_region_held3 (fun w' => w'.cell? ⟨xb, 1, none⟩ = some (.int .i64 e.bottom) ∧ w'.cell? ⟨xb, 5, none⟩ = some (.int .u64 b)) (refine ⟨?_, ?_⟩ <;> (first | (with_reducible assumption) | (simp only [cell_drewN8, cell_drew8]; with_reducible assumption) | ((try simp only [cell_drewN8, cell_drew8]); (repeat (with_reducible refine set_cell8 _ ?_ (by decide))); (first | (with_reducible assumption) | (simp only [cell_drewN8, cell_drew8]; with_reducible assumption))))) (first | (go_at_call 18; refine (Put_h (H.drewN _) i hi _ _).mono ?_; rintro r w2 ⟨rfl, H2⟩; obtain ⟨y0, y1, y2, y3, y4, y5, y6, y7, y8, y9, fy⟩ := row10 (H2.get j (set_get8 hj _ IJ.out)); rw [HC.out] at y9))
  have hj2 := set_get8 hj (storeC w0.heap.size sb g (mput l e.bottom (wu (b + 1))) (wrap64 (n + 1))) IJ.out
  have hl2 := Lib.hid (List.getElem?_eq_some_iff.1 hj2).1
  all_goals go_wp2_with fail
  have H3 : Has w0 _ ((cs.set i (storeC _ sb g (mput l e.bottom (wu (b + 1))) (wrap64 (n + 1)))).set j (dqB _ xb e nx b t 0 o won)) := H2.blkSet j hj2 7 (.int .u64 0)
  refine (end_h (by first | exact H3 | exact H3.drew | exact H3.drewN _) j (lset_same8 hj2 _) 3).mono ?_
  rintro r w4 ⟨rfl, H6⟩
  rw [List.set_set] at H6
  go_wp2_with fail
  go_end0
  first | exact ⟨rfl, H6⟩ | exact ⟨rfl, (H6).drew⟩ | exact ⟨rfl, (H6).drewN _⟩
end

end Go.Proofs.Ytlmmaijbppdckaa
