/- A deque's machine: begun, stepped, asked what came of it. Conditions: the Store and the machine are parts. -/
import Derived.Test.YtlmmaijbppdckaaDq8
set_option linter.unusedVariables false
set_option linter.unusedSimpArgs false
namespace Go.Proofs.Ytlmmaijbppdckaa
open Go.ChangeShapes Go.WideShapes Go.ChangeAt Go.RowKit

/-- A machine's first step captures two variables, which lie beside it. -/
def iniV (xb : Nat) : Value := .func (.func 30) #[] #[.pointer (some ⟨xb - 1, 0, none⟩), .pointer (some ⟨xb + 1, 0, none⟩)]
def dqFn : Nat → Fn
  | 1 => .func 23
  | 5 => .func 24
  | 11 => .func 25
  | _ => .func 0
def dqFst (st : Nat) : Value := .func (dqFn st) #[] #[]
def dqNext (xb : Nat) : Nat → Value
  | 0 => .nilFunc
  | 2 => .func (.func 31) #[.pointer (some ⟨xb, 0, none⟩)] #[]
  | 3 => .func (.func 34) #[.pointer (some ⟨xb, 0, none⟩)] #[]
  | 4 => .func (.func 40) #[.pointer (some ⟨xb, 0, none⟩)] #[]
  | 6 => .func (.func 32) #[.pointer (some ⟨xb, 0, none⟩)] #[]
  | 7 => .func (.func 37) #[.pointer (some ⟨xb, 0, none⟩)] #[]
  | 8 => .func (.func 41) #[.pointer (some ⟨xb, 0, none⟩)] #[]
  | 9 => .func (.func 44) #[.pointer (some ⟨xb, 0, none⟩)] #[]
  | 10 => .func (.func 42) #[.pointer (some ⟨xb, 0, none⟩)] #[]
  | 12 => .func (.func 33) #[.pointer (some ⟨xb, 0, none⟩)] #[]
  | 13 => .func (.func 38) #[.pointer (some ⟨xb, 0, none⟩)] #[]
  | 14 => .func (.func 43) #[.pointer (some ⟨xb, 0, none⟩)] #[]
  | _ => iniV xb
def iniC (n0 xb : Nat) (e : En) (m : Dq) : Chunk n0 :=
  ⟨[xb, xb - 1, xb + 1], false, fun w => w.heap[xb]? = some (.cells #[.int .i64 e.top, .int .i64 e.bottom, .int .i64 e.entry, .int .i64 e.room, iniV xb, .int .u64 m.b, .int .u64 m.t, .int .u64 m.w, .int .i64 m.out, .bool m.won] 63 (0, 0)) ∧ w.heap[xb - 1]? = some (.cells #[dqFst m.st] 60 (0, 0)) ∧ w.heap[xb + 1]? = some (.cells #[.pointer (some ⟨xb, 0, none⟩)] 32 (0, 0)),
   fun w w' h hh => ⟨(h xb (.inr (by simp))).trans hh.1, (h (xb - 1) (.inr (by simp))).trans hh.2.1, (h (xb + 1) (.inr (by simp))).trans hh.2.2⟩⟩
/-- A machine. -/
def dqC (n0 xb : Nat) (e : En) (m : Dq) : Chunk n0 := bif m.st == 1 || m.st == 5 || m.st == 11 then iniC n0 xb e m else dqB n0 xb e (dqNext xb m.st) m.b m.t m.w m.out m.won

theorem Has.ini {w0 w : World} {cs : List (Chunk w0.heap.size)} (H : Has w0 w cs) {j xb : Nat} {e : En} {m : Dq} (hj : cs[j]? = some (iniC _ xb e m)) : Has w0 w (cs.set j (dqB _ xb e (iniV xb) m.b m.t m.w m.out m.won)) ∧ w.cell? ⟨xb - 1, 0, none⟩ = some (dqFst m.st) ∧ w.cell? ⟨xb + 1, 0, none⟩ = some (.pointer (some ⟨xb, 0, none⟩)) :=
  ⟨H.re _ hj (fun k hk => by simp only [dqB, blkC, List.mem_singleton] at hk; subst hk; simp [iniC]) (fun _ => rfl) (H.get j hj).1, (row1 (H.get j hj).2.1).1, (row1 (H.get j hj).2.2).1⟩

set_option maxRecDepth 100000 in
theorem begun_h {w0 w : World} {cs : List (Chunk w0.heap.size)} (H : Has w0 w cs) (e : En) (x : Int) (st : Nat) :
    Calls Try.prog 22 #[.agg #[.int .i64 e.top, .int .i64 e.bottom, .int .i64 e.entry, .int .i64 e.room], .int .u64 x, dqFst st] w fun r w' => ∃ xb, r = .returned (.pointer (some ⟨xb, 0, none⟩)) ∧ Has w0 w' (cs ++ [iniC _ xb e ⟨st, 0, 0, x, 0, false⟩]) := by
  have H3 := (((H.blkNew #[.int .i64 e.top, .int .i64 e.bottom, .int .i64 e.entry, .int .i64 e.room] 25).blkNew #[dqFst st] 60).blkNew #[.int .i64 e.top, .int .i64 e.bottom, .int .i64 e.entry, .int .i64 e.room, iniV (w.heap.size + 2), .int .u64 0, .int .u64 0, .int .u64 x, .int .i64 0, .bool false] 63).blkNew #[.pointer (some ⟨w.heap.size + 2, 0, none⟩)] 32
  have B : Below w.heap.size w ((((w.alloc (.cells #[.int .i64 e.top, .int .i64 e.bottom, .int .i64 e.entry, .int .i64 e.room] 25)).alloc (.cells #[dqFst st] 60)).alloc (.cells #[.int .i64 e.top, .int .i64 e.bottom, .int .i64 e.entry, .int .i64 e.room, iniV (w.heap.size + 2), .int .u64 0, .int .u64 0, .int .u64 x, .int .i64 0, .bool false] 63)).alloc (.cells #[.pointer (some ⟨w.heap.size + 2, 0, none⟩)] 32)) :=
    ((((Below.refl _ _).alloc (Nat.le_refl _) _).alloc (by simp) _).alloc (by simp; omega) _).alloc (by simp; omega) _
  have z1 : ∀ (w : World) o, (w.alloc o).heap.size = w.heap.size + 1 := fun w o => by simp
  have h1 := H3.get (cs.length + 1) (c := blkC _ (w.heap.size + 1) #[dqFst st] 60) (by simp [z1, List.getElem?_append])
  have h2 := H3.get (cs.length + 2) (c := blkC _ (w.heap.size + 2) #[.int .i64 e.top, .int .i64 e.bottom, .int .i64 e.entry, .int .i64 e.room, iniV (w.heap.size + 2), .int .u64 0, .int .u64 0, .int .u64 x, .int .i64 0, .bool false] 63) (by simp [z1, List.getElem?_append])
  have h3 := H3.get (cs.length + 3) (c := blkC _ (w.heap.size + 3) #[.pointer (some ⟨w.heap.size + 2, 0, none⟩)] 32) (by simp [z1, List.getElem?_append])
  have G := H.add (iniC _ (w.heap.size + 2) e ⟨st, 0, 0, x, 0, false⟩) B (by simp [iniC, z1]; omega) ⟨h2, h1, h3⟩
  clear H3 B h1 h2 h3 z1
  unfold dqFst at G ⊢
  generalize dqFn st = f at G ⊢
  go_enter Try.func22, Try.ntmps22
  go_wp2_with fail
  go_ret
  exact ⟨_, rfl, G⟩

theorem Push_h {w0 w : World} {cs : List (Chunk w0.heap.size)} (H : Has w0 w cs) (e : En) (x : Int) :
    Calls Try.prog 11 #[.agg #[.int .i64 e.top, .int .i64 e.bottom, .int .i64 e.entry, .int .i64 e.room], .int .u64 x] w fun r w' => ∃ xb, r = .returned (.pointer (some ⟨xb, 0, none⟩)) ∧ Has w0 w' (cs ++ [dqC _ xb e (dqPush x)]) := by
  go_enter Try.func11, Try.ntmps11
  go_wp2_with fail
  have C := begun_h (H.alloc (.cells #[.int .i64 e.top, .int .i64 e.bottom, .int .i64 e.entry, .int .i64 e.room] 25)) e x 1
  rw [show dqFst 1 = .func (.func 23) #[] #[] from rfl] at C
  refine C.mono ?_
  rintro r w1 ⟨xb, rfl, H1⟩
  go_wp2_with fail
  go_ret
  exact ⟨_, rfl, H1⟩

theorem Pop_h {w0 w : World} {cs : List (Chunk w0.heap.size)} (H : Has w0 w cs) (e : En) :
    Calls Try.prog 12 #[.agg #[.int .i64 e.top, .int .i64 e.bottom, .int .i64 e.entry, .int .i64 e.room]] w fun r w' => ∃ xb, r = .returned (.pointer (some ⟨xb, 0, none⟩)) ∧ Has w0 w' (cs ++ [dqC _ xb e dqPop]) := by
  go_enter Try.func12, Try.ntmps12
  go_wp2_with fail
  have C := begun_h (H.alloc (.cells #[.int .i64 e.top, .int .i64 e.bottom, .int .i64 e.entry, .int .i64 e.room] 25)) e 0 5
  rw [show dqFst 5 = .func (.func 24) #[] #[] from rfl] at C
  refine C.mono ?_
  rintro r w1 ⟨xb, rfl, H1⟩
  go_wp2_with fail
  go_ret
  exact ⟨_, rfl, H1⟩

theorem Steal_h {w0 w : World} {cs : List (Chunk w0.heap.size)} (H : Has w0 w cs) (e : En) :
    Calls Try.prog 13 #[.agg #[.int .i64 e.top, .int .i64 e.bottom, .int .i64 e.entry, .int .i64 e.room]] w fun r w' => ∃ xb, r = .returned (.pointer (some ⟨xb, 0, none⟩)) ∧ Has w0 w' (cs ++ [dqC _ xb e dqSteal]) := by
  go_enter Try.func13, Try.ntmps13
  go_wp2_with fail
  have C := begun_h (H.alloc (.cells #[.int .i64 e.top, .int .i64 e.bottom, .int .i64 e.entry, .int .i64 e.room] 25)) e 0 11
  rw [show dqFst 11 = .func (.func 25) #[] #[] from rfl] at C
  refine C.mono ?_
  rintro r w1 ⟨xb, rfl, H1⟩
  go_wp2_with fail
  go_ret
  exact ⟨_, rfl, H1⟩

section
variable {w0 w : World} {cs : List (Chunk w0.heap.size)} (H : Has w0 w cs) (i j : Nat) {sb g xb : Nat} {l : List Int} {n : Int} {e : En} {b t x o : Int} {won : Bool} (hi : cs[i]? = some (storeC _ sb g l n)) (hij : i ≠ j)
include H hi hij

theorem ini_pushBottom {nx : Value} (hj : cs[j]? = some (dqB _ xb e nx b t x o won)) (fb : w.cell? ⟨xb - 1, 0, none⟩ = some (.func (.func 23) #[] #[])) (kb : w.cell? ⟨xb + 1, 0, none⟩ = some (.pointer (some ⟨xb, 0, none⟩))) :
    Calls Try.prog 30 #[.pointer (some ⟨sb, 0, none⟩), .pointer (some ⟨xb - 1, 0, none⟩), .pointer (some ⟨xb + 1, 0, none⟩)] w fun r w' => r = .returned (.tuple #[]) ∧
      Has w0 w' ((cs.set i (storeC _ sb g l (wrap64 (n + 1)))).set j (dqB _ xb e (bnd 31 xb) (mld l e.bottom) t x o won)) := by
  have IJ := Lib.hid hij
  clear hij
  go_enter Try.func30, Try.ntmps30
  go_wp2_with fail
  refine (pushBottom_h H i j hi hj IJ.out).mono ?_
  rintro r w1 ⟨rfl, H2⟩
  go_wp2_with fail
  go_end0
  exact ⟨rfl, H2⟩

theorem ini_popBottom {nx : Value} (hj : cs[j]? = some (dqB _ xb e nx b t x o won)) (fb : w.cell? ⟨xb - 1, 0, none⟩ = some (.func (.func 24) #[] #[])) (kb : w.cell? ⟨xb + 1, 0, none⟩ = some (.pointer (some ⟨xb, 0, none⟩))) :
    Calls Try.prog 30 #[.pointer (some ⟨sb, 0, none⟩), .pointer (some ⟨xb - 1, 0, none⟩), .pointer (some ⟨xb + 1, 0, none⟩)] w fun r w' => r = .returned (.tuple #[]) ∧
      Has w0 w' ((cs.set i (storeC _ sb g l (wrap64 (n + 1)))).set j (dqB _ xb e (bnd 32 xb) (wu (mld l e.bottom - 1)) t x o won)) := by
  have IJ := Lib.hid hij
  clear hij
  go_enter Try.func30, Try.ntmps30
  go_wp2_with fail
  refine (popBottom_h H i j hi hj IJ.out).mono ?_
  rintro r w1 ⟨rfl, H2⟩
  go_wp2_with fail
  go_end0
  exact ⟨rfl, H2⟩

theorem ini_stealTop {nx : Value} (hj : cs[j]? = some (dqB _ xb e nx b t x o won)) (fb : w.cell? ⟨xb - 1, 0, none⟩ = some (.func (.func 25) #[] #[])) (kb : w.cell? ⟨xb + 1, 0, none⟩ = some (.pointer (some ⟨xb, 0, none⟩))) :
    Calls Try.prog 30 #[.pointer (some ⟨sb, 0, none⟩), .pointer (some ⟨xb - 1, 0, none⟩), .pointer (some ⟨xb + 1, 0, none⟩)] w fun r w' => r = .returned (.tuple #[]) ∧
      Has w0 w' ((cs.set i (storeC _ sb g l (wrap64 (n + 1)))).set j (dqB _ xb e (bnd 33 xb) b (mld l e.top) x o won)) := by
  have IJ := Lib.hid hij
  clear hij
  go_enter Try.func30, Try.ntmps30
  go_wp2_with fail
  refine (stealTop_h H i j hi hj IJ.out).mono ?_
  rintro r w1 ⟨rfl, H2⟩
  go_wp2_with fail
  go_end0
  exact ⟨rfl, H2⟩

set_option maxRecDepth 100000 in
set_option maxHeartbeats 2000000 in
theorem dqStep0 (hj : cs[j]? = some (dqC _ xb e ⟨0, b, t, x, o, won⟩)) :
    Calls Try.prog 14 #[.pointer (some ⟨xb, 0, none⟩), .pointer (some ⟨sb, 0, none⟩)] w fun r w' => r = .returned (.bool ((dqStep e l ⟨0, b, t, x, o, won⟩).2.st == 0)) ∧
      Has w0 w' ((cs.set i (storeC _ sb g (dqStep e l ⟨0, b, t, x, o, won⟩).1 (dqCount ⟨0, b, t, x, o, won⟩ n))).set j (dqC _ xb e (dqStep e l ⟨0, b, t, x, o, won⟩).2)) := by
  have f0 := fun (w : World) f b c => run_eql_func w (Try.underlying61) f b c
  have f1 := fun (w : World) => run_eql_nil w (Try.underlying61)
  have IJ := Lib.hid hij
  clear hij
  have hj' : cs[j]? = some (dqB _ xb e .nilFunc b t x o won) := hj
  obtain ⟨x0, x1, x2, x3, x4, x5, x6, x7, x8, x9, fx⟩ := row10 (H.get j hj')
  go_enter Try.func14, Try.ntmps14
  go_wp2_with fail
  go_ret
  have e1 : (cs.set i (storeC w0.heap.size sb g l n)).set j (dqC _ xb e ⟨0, b, t, x, o, won⟩) = cs := by rw [lset_is8 hi]; exact lset_is8 hj
  exact ⟨rfl, by show Has w0 _ ((cs.set i (storeC _ sb g l n)).set j (dqC _ xb e ⟨0, b, t, x, o, won⟩)); rw [e1]; exact H⟩

set_option maxRecDepth 100000 in
set_option maxHeartbeats 2000000 in
theorem dqStep1 (hj : cs[j]? = some (dqC _ xb e ⟨1, b, t, x, o, won⟩)) :
    Calls Try.prog 14 #[.pointer (some ⟨xb, 0, none⟩), .pointer (some ⟨sb, 0, none⟩)] w fun r w' => r = .returned (.bool ((dqStep e l ⟨1, b, t, x, o, won⟩).2.st == 0)) ∧
      Has w0 w' ((cs.set i (storeC _ sb g (dqStep e l ⟨1, b, t, x, o, won⟩).1 (dqCount ⟨1, b, t, x, o, won⟩ n))).set j (dqC _ xb e (dqStep e l ⟨1, b, t, x, o, won⟩).2)) := by
  have f0 := fun (w : World) f b c => run_eql_func w (Try.underlying61) f b c
  have f1 := fun (w : World) => run_eql_nil w (Try.underlying61)
  have IJ := Lib.hid hij
  clear hij
  obtain ⟨H1, fb, kb⟩ := H.ini (m := ⟨1, b, t, x, o, won⟩) hj
  dsimp only [dqFst, dqFn] at fb
  have hj1 := lset_same8 hj (dqB w0.heap.size xb e (iniV xb) b t x o won)
  have hi1 := set_get8 hi (dqB w0.heap.size xb e (iniV xb) b t x o won) (Ne.symm IJ.out)
  have HCS : Hid ((cs.set j (dqB w0.heap.size xb e (iniV xb) b t x o won)) = cs.set j (dqB w0.heap.size xb e (iniV xb) b t x o won)) := Lib.hid rfl
  obtain ⟨x0, x1, x2, x3, x4, x5, x6, x7, x8, x9, fx⟩ := row10 (H1.get j hj1)
  unfold iniV at x4
  go_enter Try.func14, Try.ntmps14
  go_wp2_with fail
  refine (ini_pushBottom H1 i j hi1 IJ.out hj1 fb kb).mono ?_
  rintro r w1 ⟨rfl, H2⟩
  obtain ⟨y0, y1, y2, y3, y4, y5, y6, y7, y8, y9, fy⟩ := row10 (H2.get j (lset_same8 (set_get8 hj1 _ IJ.out) _))
  clear x0 x1 x2 x3 x4 x5 x6 x7 x8 x9 fx
  go_wp2_with fail
  go_ret
  rw [List.set_comm _ _ (Ne.symm IJ.out), List.set_set] at H2
  exact ⟨rfl, H2⟩

set_option maxRecDepth 100000 in
set_option maxHeartbeats 2000000 in
theorem dqStep2 (hj : cs[j]? = some (dqC _ xb e ⟨2, b, t, x, o, won⟩)) (hr0 : e.room ≤ 1000) (hr1 : -9223372036854775808 ≤ e.room) :
    Calls Try.prog 14 #[.pointer (some ⟨xb, 0, none⟩), .pointer (some ⟨sb, 0, none⟩)] w fun r w' => r = .returned (.bool ((dqStep e l ⟨2, b, t, x, o, won⟩).2.st == 0)) ∧
      Has w0 w' ((cs.set i (storeC _ sb g (dqStep e l ⟨2, b, t, x, o, won⟩).1 (dqCount ⟨2, b, t, x, o, won⟩ n))).set j (dqC _ xb e (dqStep e l ⟨2, b, t, x, o, won⟩).2)) := by
  have f0 := fun (w : World) f b c => run_eql_func w (Try.underlying61) f b c
  have f1 := fun (w : World) => run_eql_nil w (Try.underlying61)
  have IJ := Lib.hid hij
  clear hij
  have hj' : cs[j]? = some (dqB _ xb e (bnd 31 xb) b t x o won) := hj
  have HJ := Lib.hid hj'
  obtain ⟨x0, x1, x2, x3, x4, x5, x6, x7, x8, x9, fx⟩ := row10 (H.get j hj')
  clear hj hj'
  have HR0 := Lib.hid hr0
  have HR1 := Lib.hid hr1
  by_cases hc : enRoom e ≤ wAhead b (mld l e.top)
  · have HC := Lib.hid hc
    have e1 : dqStep e l ⟨2, b, t, x, o, won⟩ = (l, ⟨0, b, mld l e.top, 0, 2, won⟩) := by show (l, dqPick (decide _) _ _) = _; rw [decide_eq_true hc]; rfl
    rw [e1]
    clear hc e1
    by_cases hr : 1 ≤ e.room
    · have HR := Lib.hid hr
      clear hr hr0 hr1
      go_enter Try.func14, Try.ntmps14
      go_wp2_with fail
      refine (pushTop_yes1_h H i j hi HJ.out IJ.out (by have := HC.out; omega) HR0.out HR1.out (by have := HR.out; omega)).mono ?_
      rintro r w1 ⟨rfl, H2⟩
      obtain ⟨y0, y1, y2, y3, y4, y5, y6, y7, y8, y9, fy⟩ := row10 (H2.get j (lset_same8 (set_get8 HJ.out _ IJ.out) _))
      clear x0 x1 x2 x3 x4 x5 x6 x7 x8 x9 fx
      go_wp2_with fail
      go_ret
      exact ⟨rfl, H2⟩
    · have HR := Lib.hid hr
      clear hr hr0 hr1
      go_enter Try.func14, Try.ntmps14
      go_wp2_with fail
      refine (pushTop_yes0_h H i j hi HJ.out IJ.out (by have := HC.out; omega) HR0.out HR1.out (by have := HR.out; omega)).mono ?_
      rintro r w1 ⟨rfl, H2⟩
      obtain ⟨y0, y1, y2, y3, y4, y5, y6, y7, y8, y9, fy⟩ := row10 (H2.get j (lset_same8 (set_get8 HJ.out _ IJ.out) _))
      clear x0 x1 x2 x3 x4 x5 x6 x7 x8 x9 fx
      go_wp2_with fail
      go_ret
      exact ⟨rfl, H2⟩
  · have HC := Lib.hid hc
    have e1 : dqStep e l ⟨2, b, t, x, o, won⟩ = (l, ⟨3, b, mld l e.top, x, o, won⟩) := by show (l, dqPick (decide _) _ _) = _; rw [decide_eq_false hc]; rfl
    rw [e1]
    clear hc e1
    by_cases hr : 1 ≤ e.room
    · have HR := Lib.hid hr
      clear hr hr0 hr1
      go_enter Try.func14, Try.ntmps14
      go_wp2_with fail
      refine (pushTop_no1_h H i j hi HJ.out IJ.out (by have := HC.out; omega) HR0.out HR1.out (by have := HR.out; omega)).mono ?_
      rintro r w1 ⟨rfl, H2⟩
      obtain ⟨y0, y1, y2, y3, y4, y5, y6, y7, y8, y9, fy⟩ := row10 (H2.get j (lset_same8 (set_get8 HJ.out _ IJ.out) _))
      clear x0 x1 x2 x3 x4 x5 x6 x7 x8 x9 fx
      go_wp2_with fail
      go_ret
      exact ⟨rfl, H2⟩
    · have HR := Lib.hid hr
      clear hr hr0 hr1
      go_enter Try.func14, Try.ntmps14
      go_wp2_with fail
      refine (pushTop_no0_h H i j hi HJ.out IJ.out (by have := HC.out; omega) HR0.out HR1.out (by have := HR.out; omega)).mono ?_
      rintro r w1 ⟨rfl, H2⟩
      obtain ⟨y0, y1, y2, y3, y4, y5, y6, y7, y8, y9, fy⟩ := row10 (H2.get j (lset_same8 (set_get8 HJ.out _ IJ.out) _))
      clear x0 x1 x2 x3 x4 x5 x6 x7 x8 x9 fx
      go_wp2_with fail
      go_ret
      exact ⟨rfl, H2⟩

set_option maxRecDepth 100000 in
set_option maxHeartbeats 2000000 in
theorem dqStep3 (hj : cs[j]? = some (dqC _ xb e ⟨3, b, t, x, o, won⟩)) (ok : EnOk e) (b0 : 0 ≤ b) (b1 : b < 18446744073709551616) :
    Calls Try.prog 14 #[.pointer (some ⟨xb, 0, none⟩), .pointer (some ⟨sb, 0, none⟩)] w fun r w' => r = .returned (.bool ((dqStep e l ⟨3, b, t, x, o, won⟩).2.st == 0)) ∧
      Has w0 w' ((cs.set i (storeC _ sb g (dqStep e l ⟨3, b, t, x, o, won⟩).1 (dqCount ⟨3, b, t, x, o, won⟩ n))).set j (dqC _ xb e (dqStep e l ⟨3, b, t, x, o, won⟩).2)) := by
  have f0 := fun (w : World) f b c => run_eql_func w (Try.underlying61) f b c
  have f1 := fun (w : World) => run_eql_nil w (Try.underlying61)
  have IJ := Lib.hid hij
  clear hij
  have hj' : cs[j]? = some (dqB _ xb e (bnd 34 xb) b t x o won) := hj
  have HJ := Lib.hid hj'
  obtain ⟨x0, x1, x2, x3, x4, x5, x6, x7, x8, x9, fx⟩ := row10 (H.get j hj')
  clear hj hj'
  have OK := Lib.hid ok
  clear ok
  go_enter Try.func14, Try.ntmps14
  go_wp2_with fail
  refine (pushEntry_h H i j hi HJ.out IJ.out OK.out b0 b1).mono ?_
  rintro r w1 ⟨rfl, H2⟩
  obtain ⟨y0, y1, y2, y3, y4, y5, y6, y7, y8, y9, fy⟩ := row10 (H2.get j (lset_same8 (set_get8 HJ.out _ IJ.out) _))
  clear x0 x1 x2 x3 x4 x5 x6 x7 x8 x9 fx
  go_wp2_with fail
  go_ret
  exact ⟨rfl, H2⟩

set_option maxRecDepth 100000 in
set_option maxHeartbeats 2000000 in
theorem dqStep4 (hj : cs[j]? = some (dqC _ xb e ⟨4, b, t, x, o, won⟩)) :
    Calls Try.prog 14 #[.pointer (some ⟨xb, 0, none⟩), .pointer (some ⟨sb, 0, none⟩)] w fun r w' => r = .returned (.bool ((dqStep e l ⟨4, b, t, x, o, won⟩).2.st == 0)) ∧
      Has w0 w' ((cs.set i (storeC _ sb g (dqStep e l ⟨4, b, t, x, o, won⟩).1 (dqCount ⟨4, b, t, x, o, won⟩ n))).set j (dqC _ xb e (dqStep e l ⟨4, b, t, x, o, won⟩).2)) := by
  have f0 := fun (w : World) f b c => run_eql_func w (Try.underlying61) f b c
  have f1 := fun (w : World) => run_eql_nil w (Try.underlying61)
  have IJ := Lib.hid hij
  clear hij
  have hj' : cs[j]? = some (dqB _ xb e (bnd 40 xb) b t x o won) := hj
  have HJ := Lib.hid hj'
  obtain ⟨x0, x1, x2, x3, x4, x5, x6, x7, x8, x9, fx⟩ := row10 (H.get j hj')
  clear hj hj'
  go_enter Try.func14, Try.ntmps14
  go_wp2_with fail
  refine (pushEnd_h H i j hi HJ.out IJ.out).mono ?_
  rintro r w1 ⟨rfl, H2⟩
  obtain ⟨y0, y1, y2, y3, y4, y5, y6, y7, y8, y9, fy⟩ := row10 (H2.get j (lset_same8 (set_get8 HJ.out _ IJ.out) _))
  clear x0 x1 x2 x3 x4 x5 x6 x7 x8 x9 fx
  go_wp2_with fail
  go_ret
  exact ⟨rfl, H2⟩

set_option maxRecDepth 100000 in
set_option maxHeartbeats 2000000 in
theorem dqStep5 (hj : cs[j]? = some (dqC _ xb e ⟨5, b, t, x, o, won⟩)) :
    Calls Try.prog 14 #[.pointer (some ⟨xb, 0, none⟩), .pointer (some ⟨sb, 0, none⟩)] w fun r w' => r = .returned (.bool ((dqStep e l ⟨5, b, t, x, o, won⟩).2.st == 0)) ∧
      Has w0 w' ((cs.set i (storeC _ sb g (dqStep e l ⟨5, b, t, x, o, won⟩).1 (dqCount ⟨5, b, t, x, o, won⟩ n))).set j (dqC _ xb e (dqStep e l ⟨5, b, t, x, o, won⟩).2)) := by
  have f0 := fun (w : World) f b c => run_eql_func w (Try.underlying61) f b c
  have f1 := fun (w : World) => run_eql_nil w (Try.underlying61)
  have IJ := Lib.hid hij
  clear hij
  obtain ⟨H1, fb, kb⟩ := H.ini (m := ⟨5, b, t, x, o, won⟩) hj
  dsimp only [dqFst, dqFn] at fb
  have hj1 := lset_same8 hj (dqB w0.heap.size xb e (iniV xb) b t x o won)
  have hi1 := set_get8 hi (dqB w0.heap.size xb e (iniV xb) b t x o won) (Ne.symm IJ.out)
  have HCS : Hid ((cs.set j (dqB w0.heap.size xb e (iniV xb) b t x o won)) = cs.set j (dqB w0.heap.size xb e (iniV xb) b t x o won)) := Lib.hid rfl
  obtain ⟨x0, x1, x2, x3, x4, x5, x6, x7, x8, x9, fx⟩ := row10 (H1.get j hj1)
  unfold iniV at x4
  go_enter Try.func14, Try.ntmps14
  go_wp2_with fail
  refine (ini_popBottom H1 i j hi1 IJ.out hj1 fb kb).mono ?_
  rintro r w1 ⟨rfl, H2⟩
  obtain ⟨y0, y1, y2, y3, y4, y5, y6, y7, y8, y9, fy⟩ := row10 (H2.get j (lset_same8 (set_get8 hj1 _ IJ.out) _))
  clear x0 x1 x2 x3 x4 x5 x6 x7 x8 x9 fx
  go_wp2_with fail
  go_ret
  rw [List.set_comm _ _ (Ne.symm IJ.out), List.set_set] at H2
  exact ⟨rfl, H2⟩

set_option maxRecDepth 100000 in
set_option maxHeartbeats 2000000 in
theorem dqStep6 (hj : cs[j]? = some (dqC _ xb e ⟨6, b, t, x, o, won⟩)) :
    Calls Try.prog 14 #[.pointer (some ⟨xb, 0, none⟩), .pointer (some ⟨sb, 0, none⟩)] w fun r w' => r = .returned (.bool ((dqStep e l ⟨6, b, t, x, o, won⟩).2.st == 0)) ∧
      Has w0 w' ((cs.set i (storeC _ sb g (dqStep e l ⟨6, b, t, x, o, won⟩).1 (dqCount ⟨6, b, t, x, o, won⟩ n))).set j (dqC _ xb e (dqStep e l ⟨6, b, t, x, o, won⟩).2)) := by
  have f0 := fun (w : World) f b c => run_eql_func w (Try.underlying61) f b c
  have f1 := fun (w : World) => run_eql_nil w (Try.underlying61)
  have IJ := Lib.hid hij
  clear hij
  have hj' : cs[j]? = some (dqB _ xb e (bnd 32 xb) b t x o won) := hj
  have HJ := Lib.hid hj'
  obtain ⟨x0, x1, x2, x3, x4, x5, x6, x7, x8, x9, fx⟩ := row10 (H.get j hj')
  clear hj hj'
  go_enter Try.func14, Try.ntmps14
  go_wp2_with fail
  refine (popDown_h H i j hi HJ.out IJ.out).mono ?_
  rintro r w1 ⟨rfl, H2⟩
  obtain ⟨y0, y1, y2, y3, y4, y5, y6, y7, y8, y9, fy⟩ := row10 (H2.get j (lset_same8 (set_get8 HJ.out _ IJ.out) _))
  clear x0 x1 x2 x3 x4 x5 x6 x7 x8 x9 fx
  go_wp2_with fail
  go_ret
  exact ⟨rfl, H2⟩

set_option maxRecDepth 100000 in
set_option maxHeartbeats 2000000 in
theorem dqStep7 (hj : cs[j]? = some (dqC _ xb e ⟨7, b, t, x, o, won⟩)) :
    Calls Try.prog 14 #[.pointer (some ⟨xb, 0, none⟩), .pointer (some ⟨sb, 0, none⟩)] w fun r w' => r = .returned (.bool ((dqStep e l ⟨7, b, t, x, o, won⟩).2.st == 0)) ∧
      Has w0 w' ((cs.set i (storeC _ sb g (dqStep e l ⟨7, b, t, x, o, won⟩).1 (dqCount ⟨7, b, t, x, o, won⟩ n))).set j (dqC _ xb e (dqStep e l ⟨7, b, t, x, o, won⟩).2)) := by
  have f0 := fun (w : World) f b c => run_eql_func w (Try.underlying61) f b c
  have f1 := fun (w : World) => run_eql_nil w (Try.underlying61)
  have IJ := Lib.hid hij
  clear hij
  have hj' : cs[j]? = some (dqB _ xb e (bnd 37 xb) b t x o won) := hj
  have HJ := Lib.hid hj'
  obtain ⟨x0, x1, x2, x3, x4, x5, x6, x7, x8, x9, fx⟩ := row10 (H.get j hj')
  clear hj hj'
  by_cases hc : 0 < wAhead (mld l e.top) b
  · have HC := Lib.hid hc
    have e1 : dqStep e l ⟨7, b, t, x, o, won⟩ = (l, ⟨10, b, mld l e.top, x, o, won⟩) := by show (l, (⟨bif decide _ then 10 else 8, b, mld l e.top, x, o, won⟩ : Dq)) = _; rw [decide_eq_true hc]; rfl
    rw [e1]
    clear hc e1
    go_enter Try.func14, Try.ntmps14
    go_wp2_with fail
    refine (popTop_yes_h H i j hi HJ.out IJ.out (by have := HC.out; omega)).mono ?_
    rintro r w1 ⟨rfl, H2⟩
    obtain ⟨y0, y1, y2, y3, y4, y5, y6, y7, y8, y9, fy⟩ := row10 (H2.get j (lset_same8 (set_get8 HJ.out _ IJ.out) _))
    clear x0 x1 x2 x3 x4 x5 x6 x7 x8 x9 fx
    go_wp2_with fail
    go_ret
    exact ⟨rfl, H2⟩
  · have HC := Lib.hid hc
    have e1 : dqStep e l ⟨7, b, t, x, o, won⟩ = (l, ⟨8, b, mld l e.top, x, o, won⟩) := by show (l, (⟨bif decide _ then 10 else 8, b, mld l e.top, x, o, won⟩ : Dq)) = _; rw [decide_eq_false hc]; rfl
    rw [e1]
    clear hc e1
    go_enter Try.func14, Try.ntmps14
    go_wp2_with fail
    refine (popTop_no_h H i j hi HJ.out IJ.out (by have := HC.out; omega)).mono ?_
    rintro r w1 ⟨rfl, H2⟩
    obtain ⟨y0, y1, y2, y3, y4, y5, y6, y7, y8, y9, fy⟩ := row10 (H2.get j (lset_same8 (set_get8 HJ.out _ IJ.out) _))
    clear x0 x1 x2 x3 x4 x5 x6 x7 x8 x9 fx
    go_wp2_with fail
    go_ret
    exact ⟨rfl, H2⟩

set_option maxRecDepth 100000 in
set_option maxHeartbeats 2000000 in
theorem dqStep8 (hj : cs[j]? = some (dqC _ xb e ⟨8, b, t, x, o, won⟩)) (ok : EnOk e) (b0 : 0 ≤ b) (b1 : b < 18446744073709551616) :
    Calls Try.prog 14 #[.pointer (some ⟨xb, 0, none⟩), .pointer (some ⟨sb, 0, none⟩)] w fun r w' => r = .returned (.bool ((dqStep e l ⟨8, b, t, x, o, won⟩).2.st == 0)) ∧
      Has w0 w' ((cs.set i (storeC _ sb g (dqStep e l ⟨8, b, t, x, o, won⟩).1 (dqCount ⟨8, b, t, x, o, won⟩ n))).set j (dqC _ xb e (dqStep e l ⟨8, b, t, x, o, won⟩).2)) := by
  have f0 := fun (w : World) f b c => run_eql_func w (Try.underlying61) f b c
  have f1 := fun (w : World) => run_eql_nil w (Try.underlying61)
  have IJ := Lib.hid hij
  clear hij
  have hj' : cs[j]? = some (dqB _ xb e (bnd 41 xb) b t x o won) := hj
  have HJ := Lib.hid hj'
  obtain ⟨x0, x1, x2, x3, x4, x5, x6, x7, x8, x9, fx⟩ := row10 (H.get j hj')
  clear hj hj'
  have OK := Lib.hid ok
  clear ok
  by_cases hc : 0 < wAhead b t
  · have HC := Lib.hid hc
    have e1 : dqStep e l ⟨8, b, t, x, o, won⟩ = (l, ⟨0, b, t, mld l (enAt e b), 1, won⟩) := by show (l, dqPick (decide _) _ _) = _; rw [decide_eq_true hc]; rfl
    rw [e1]
    clear hc e1
    go_enter Try.func14, Try.ntmps14
    go_wp2_with fail
    refine (popEntry_yes_h H i j hi HJ.out IJ.out OK.out b0 b1 (by have := HC.out; omega)).mono ?_
    rintro r w1 ⟨rfl, H2⟩
    obtain ⟨y0, y1, y2, y3, y4, y5, y6, y7, y8, y9, fy⟩ := row10 (H2.get j (lset_same8 (set_get8 HJ.out _ IJ.out) _))
    clear x0 x1 x2 x3 x4 x5 x6 x7 x8 x9 fx
    go_wp2_with fail
    go_ret
    exact ⟨rfl, H2⟩
  · have HC := Lib.hid hc
    have e1 : dqStep e l ⟨8, b, t, x, o, won⟩ = (l, ⟨9, b, t, mld l (enAt e b), o, won⟩) := by show (l, dqPick (decide _) _ _) = _; rw [decide_eq_false hc]; rfl
    rw [e1]
    clear hc e1
    go_enter Try.func14, Try.ntmps14
    go_wp2_with fail
    refine (popEntry_no_h H i j hi HJ.out IJ.out OK.out b0 b1 (by have := HC.out; omega)).mono ?_
    rintro r w1 ⟨rfl, H2⟩
    obtain ⟨y0, y1, y2, y3, y4, y5, y6, y7, y8, y9, fy⟩ := row10 (H2.get j (lset_same8 (set_get8 HJ.out _ IJ.out) _))
    clear x0 x1 x2 x3 x4 x5 x6 x7 x8 x9 fx
    go_wp2_with fail
    go_ret
    exact ⟨rfl, H2⟩

set_option maxRecDepth 100000 in
set_option maxHeartbeats 2000000 in
theorem dqStep9 (hj : cs[j]? = some (dqC _ xb e ⟨9, b, t, x, o, won⟩)) :
    Calls Try.prog 14 #[.pointer (some ⟨xb, 0, none⟩), .pointer (some ⟨sb, 0, none⟩)] w fun r w' => r = .returned (.bool ((dqStep e l ⟨9, b, t, x, o, won⟩).2.st == 0)) ∧
      Has w0 w' ((cs.set i (storeC _ sb g (dqStep e l ⟨9, b, t, x, o, won⟩).1 (dqCount ⟨9, b, t, x, o, won⟩ n))).set j (dqC _ xb e (dqStep e l ⟨9, b, t, x, o, won⟩).2)) := by
  have f0 := fun (w : World) f b c => run_eql_func w (Try.underlying61) f b c
  have f1 := fun (w : World) => run_eql_nil w (Try.underlying61)
  have IJ := Lib.hid hij
  clear hij
  have hj' : cs[j]? = some (dqB _ xb e (bnd 44 xb) b t x o won) := hj
  have HJ := Lib.hid hj'
  obtain ⟨x0, x1, x2, x3, x4, x5, x6, x7, x8, x9, fx⟩ := row10 (H.get j hj')
  clear hj hj'
  go_enter Try.func14, Try.ntmps14
  go_wp2_with fail
  refine (popSwap_h H i j hi HJ.out IJ.out).mono ?_
  rintro r w1 ⟨rfl, H2⟩
  obtain ⟨y0, y1, y2, y3, y4, y5, y6, y7, y8, y9, fy⟩ := row10 (H2.get j (lset_same8 (set_get8 HJ.out _ IJ.out) _))
  clear x0 x1 x2 x3 x4 x5 x6 x7 x8 x9 fx
  go_wp2_with fail
  go_ret
  exact ⟨rfl, H2⟩

set_option maxRecDepth 100000 in
set_option maxHeartbeats 2000000 in
theorem dqStep10 (hj : cs[j]? = some (dqC _ xb e ⟨10, b, t, x, o, won⟩)) :
    Calls Try.prog 14 #[.pointer (some ⟨xb, 0, none⟩), .pointer (some ⟨sb, 0, none⟩)] w fun r w' => r = .returned (.bool ((dqStep e l ⟨10, b, t, x, o, won⟩).2.st == 0)) ∧
      Has w0 w' ((cs.set i (storeC _ sb g (dqStep e l ⟨10, b, t, x, o, won⟩).1 (dqCount ⟨10, b, t, x, o, won⟩ n))).set j (dqC _ xb e (dqStep e l ⟨10, b, t, x, o, won⟩).2)) := by
  have f0 := fun (w : World) f b c => run_eql_func w (Try.underlying61) f b c
  have f1 := fun (w : World) => run_eql_nil w (Try.underlying61)
  have IJ := Lib.hid hij
  clear hij
  have hj' : cs[j]? = some (dqB _ xb e (bnd 42 xb) b t x o won) := hj
  have HJ := Lib.hid hj'
  obtain ⟨x0, x1, x2, x3, x4, x5, x6, x7, x8, x9, fx⟩ := row10 (H.get j hj')
  clear hj hj'
  cases won with
  | true =>
    go_enter Try.func14, Try.ntmps14
    go_wp2_with fail
    refine (popBack_yes_h H i j hi HJ.out IJ.out rfl).mono ?_
    rintro r w1 ⟨rfl, H2⟩
    obtain ⟨y0, y1, y2, y3, y4, y5, y6, y7, y8, y9, fy⟩ := row10 (H2.get j (lset_same8 (set_get8 HJ.out _ IJ.out) _))
    clear x0 x1 x2 x3 x4 x5 x6 x7 x8 x9 fx
    go_wp2_with fail
    go_ret
    exact ⟨rfl, H2⟩
  | false =>
    go_enter Try.func14, Try.ntmps14
    go_wp2_with fail
    refine (popBack_no_h H i j hi HJ.out IJ.out rfl).mono ?_
    rintro r w1 ⟨rfl, H2⟩
    obtain ⟨y0, y1, y2, y3, y4, y5, y6, y7, y8, y9, fy⟩ := row10 (H2.get j (lset_same8 (set_get8 HJ.out _ IJ.out) _))
    clear x0 x1 x2 x3 x4 x5 x6 x7 x8 x9 fx
    go_wp2_with fail
    go_ret
    exact ⟨rfl, H2⟩

set_option maxRecDepth 100000 in
set_option maxHeartbeats 2000000 in
theorem dqStep11 (hj : cs[j]? = some (dqC _ xb e ⟨11, b, t, x, o, won⟩)) :
    Calls Try.prog 14 #[.pointer (some ⟨xb, 0, none⟩), .pointer (some ⟨sb, 0, none⟩)] w fun r w' => r = .returned (.bool ((dqStep e l ⟨11, b, t, x, o, won⟩).2.st == 0)) ∧
      Has w0 w' ((cs.set i (storeC _ sb g (dqStep e l ⟨11, b, t, x, o, won⟩).1 (dqCount ⟨11, b, t, x, o, won⟩ n))).set j (dqC _ xb e (dqStep e l ⟨11, b, t, x, o, won⟩).2)) := by
  have f0 := fun (w : World) f b c => run_eql_func w (Try.underlying61) f b c
  have f1 := fun (w : World) => run_eql_nil w (Try.underlying61)
  have IJ := Lib.hid hij
  clear hij
  obtain ⟨H1, fb, kb⟩ := H.ini (m := ⟨11, b, t, x, o, won⟩) hj
  dsimp only [dqFst, dqFn] at fb
  have hj1 := lset_same8 hj (dqB w0.heap.size xb e (iniV xb) b t x o won)
  have hi1 := set_get8 hi (dqB w0.heap.size xb e (iniV xb) b t x o won) (Ne.symm IJ.out)
  have HCS : Hid ((cs.set j (dqB w0.heap.size xb e (iniV xb) b t x o won)) = cs.set j (dqB w0.heap.size xb e (iniV xb) b t x o won)) := Lib.hid rfl
  obtain ⟨x0, x1, x2, x3, x4, x5, x6, x7, x8, x9, fx⟩ := row10 (H1.get j hj1)
  unfold iniV at x4
  go_enter Try.func14, Try.ntmps14
  go_wp2_with fail
  refine (ini_stealTop H1 i j hi1 IJ.out hj1 fb kb).mono ?_
  rintro r w1 ⟨rfl, H2⟩
  obtain ⟨y0, y1, y2, y3, y4, y5, y6, y7, y8, y9, fy⟩ := row10 (H2.get j (lset_same8 (set_get8 hj1 _ IJ.out) _))
  clear x0 x1 x2 x3 x4 x5 x6 x7 x8 x9 fx
  go_wp2_with fail
  go_ret
  rw [List.set_comm _ _ (Ne.symm IJ.out), List.set_set] at H2
  exact ⟨rfl, H2⟩

set_option maxRecDepth 100000 in
set_option maxHeartbeats 2000000 in
theorem dqStep12 (hj : cs[j]? = some (dqC _ xb e ⟨12, b, t, x, o, won⟩)) :
    Calls Try.prog 14 #[.pointer (some ⟨xb, 0, none⟩), .pointer (some ⟨sb, 0, none⟩)] w fun r w' => r = .returned (.bool ((dqStep e l ⟨12, b, t, x, o, won⟩).2.st == 0)) ∧
      Has w0 w' ((cs.set i (storeC _ sb g (dqStep e l ⟨12, b, t, x, o, won⟩).1 (dqCount ⟨12, b, t, x, o, won⟩ n))).set j (dqC _ xb e (dqStep e l ⟨12, b, t, x, o, won⟩).2)) := by
  have f0 := fun (w : World) f b c => run_eql_func w (Try.underlying61) f b c
  have f1 := fun (w : World) => run_eql_nil w (Try.underlying61)
  have IJ := Lib.hid hij
  clear hij
  have hj' : cs[j]? = some (dqB _ xb e (bnd 33 xb) b t x o won) := hj
  have HJ := Lib.hid hj'
  obtain ⟨x0, x1, x2, x3, x4, x5, x6, x7, x8, x9, fx⟩ := row10 (H.get j hj')
  clear hj hj'
  by_cases hc : wAhead (mld l e.bottom) t ≤ 0
  · have HC := Lib.hid hc
    have e1 : dqStep e l ⟨12, b, t, x, o, won⟩ = (l, ⟨0, mld l e.bottom, t, x, 3, won⟩) := by show (l, dqPick (decide _) _ _) = _; rw [decide_eq_true hc]; rfl
    rw [e1]
    clear hc e1
    go_enter Try.func14, Try.ntmps14
    go_wp2_with fail
    refine (stealBottom_yes_h H i j hi HJ.out IJ.out (by have := HC.out; omega)).mono ?_
    rintro r w1 ⟨rfl, H2⟩
    obtain ⟨y0, y1, y2, y3, y4, y5, y6, y7, y8, y9, fy⟩ := row10 (H2.get j (lset_same8 (set_get8 HJ.out _ IJ.out) _))
    clear x0 x1 x2 x3 x4 x5 x6 x7 x8 x9 fx
    go_wp2_with fail
    go_ret
    exact ⟨rfl, H2⟩
  · have HC := Lib.hid hc
    have e1 : dqStep e l ⟨12, b, t, x, o, won⟩ = (l, ⟨13, mld l e.bottom, t, x, o, won⟩) := by show (l, dqPick (decide _) _ _) = _; rw [decide_eq_false hc]; rfl
    rw [e1]
    clear hc e1
    go_enter Try.func14, Try.ntmps14
    go_wp2_with fail
    refine (stealBottom_no_h H i j hi HJ.out IJ.out (by have := HC.out; omega)).mono ?_
    rintro r w1 ⟨rfl, H2⟩
    obtain ⟨y0, y1, y2, y3, y4, y5, y6, y7, y8, y9, fy⟩ := row10 (H2.get j (lset_same8 (set_get8 HJ.out _ IJ.out) _))
    clear x0 x1 x2 x3 x4 x5 x6 x7 x8 x9 fx
    go_wp2_with fail
    go_ret
    exact ⟨rfl, H2⟩

set_option maxRecDepth 100000 in
set_option maxHeartbeats 2000000 in
theorem dqStep13 (hj : cs[j]? = some (dqC _ xb e ⟨13, b, t, x, o, won⟩)) (ok : EnOk e) (t0 : 0 ≤ t) (t1 : t < 18446744073709551616) :
    Calls Try.prog 14 #[.pointer (some ⟨xb, 0, none⟩), .pointer (some ⟨sb, 0, none⟩)] w fun r w' => r = .returned (.bool ((dqStep e l ⟨13, b, t, x, o, won⟩).2.st == 0)) ∧
      Has w0 w' ((cs.set i (storeC _ sb g (dqStep e l ⟨13, b, t, x, o, won⟩).1 (dqCount ⟨13, b, t, x, o, won⟩ n))).set j (dqC _ xb e (dqStep e l ⟨13, b, t, x, o, won⟩).2)) := by
  have f0 := fun (w : World) f b c => run_eql_func w (Try.underlying61) f b c
  have f1 := fun (w : World) => run_eql_nil w (Try.underlying61)
  have IJ := Lib.hid hij
  clear hij
  have hj' : cs[j]? = some (dqB _ xb e (bnd 38 xb) b t x o won) := hj
  have HJ := Lib.hid hj'
  obtain ⟨x0, x1, x2, x3, x4, x5, x6, x7, x8, x9, fx⟩ := row10 (H.get j hj')
  clear hj hj'
  have OK := Lib.hid ok
  clear ok
  go_enter Try.func14, Try.ntmps14
  go_wp2_with fail
  refine (stealEntry_h H i j hi HJ.out IJ.out OK.out t0 t1).mono ?_
  rintro r w1 ⟨rfl, H2⟩
  obtain ⟨y0, y1, y2, y3, y4, y5, y6, y7, y8, y9, fy⟩ := row10 (H2.get j (lset_same8 (set_get8 HJ.out _ IJ.out) _))
  clear x0 x1 x2 x3 x4 x5 x6 x7 x8 x9 fx
  go_wp2_with fail
  go_ret
  exact ⟨rfl, H2⟩

set_option maxRecDepth 100000 in
set_option maxHeartbeats 2000000 in
theorem dqStep14 (hj : cs[j]? = some (dqC _ xb e ⟨14, b, t, x, o, won⟩)) :
    Calls Try.prog 14 #[.pointer (some ⟨xb, 0, none⟩), .pointer (some ⟨sb, 0, none⟩)] w fun r w' => r = .returned (.bool ((dqStep e l ⟨14, b, t, x, o, won⟩).2.st == 0)) ∧
      Has w0 w' ((cs.set i (storeC _ sb g (dqStep e l ⟨14, b, t, x, o, won⟩).1 (dqCount ⟨14, b, t, x, o, won⟩ n))).set j (dqC _ xb e (dqStep e l ⟨14, b, t, x, o, won⟩).2)) := by
  have f0 := fun (w : World) f b c => run_eql_func w (Try.underlying61) f b c
  have f1 := fun (w : World) => run_eql_nil w (Try.underlying61)
  have IJ := Lib.hid hij
  clear hij
  have hj' : cs[j]? = some (dqB _ xb e (bnd 43 xb) b t x o won) := hj
  have HJ := Lib.hid hj'
  obtain ⟨x0, x1, x2, x3, x4, x5, x6, x7, x8, x9, fx⟩ := row10 (H.get j hj')
  clear hj hj'
  obtain ⟨B, hB⟩ : ∃ B, mswapped l e.top t = B := ⟨_, rfl⟩
  have HB := Lib.hid hB
  cases B with
  | true =>
    have e1 : dqStep e l ⟨14, b, t, x, o, won⟩ = (mswap l e.top t (wu (t + 1)), ⟨0, b, t, x, 1, won⟩) := by show (_, dqPick (mswapped l e.top t) _ _) = _; rw [hB]; rfl
    rw [e1]
    clear hB e1
    go_enter Try.func14, Try.ntmps14
    go_wp2_with fail
    refine (stealSwap_yes_h H i j hi HJ.out IJ.out HB.out).mono ?_
    rintro r w1 ⟨rfl, H2⟩
    obtain ⟨y0, y1, y2, y3, y4, y5, y6, y7, y8, y9, fy⟩ := row10 (H2.get j (lset_same8 (set_get8 HJ.out _ IJ.out) _))
    clear x0 x1 x2 x3 x4 x5 x6 x7 x8 x9 fx
    go_wp2_with fail
    go_ret
    exact ⟨rfl, H2⟩
  | false =>
    have e1 : dqStep e l ⟨14, b, t, x, o, won⟩ = (mswap l e.top t (wu (t + 1)), ⟨0, b, t, 0, 4, won⟩) := by show (_, dqPick (mswapped l e.top t) _ _) = _; rw [hB]; rfl
    rw [e1]
    clear hB e1
    go_enter Try.func14, Try.ntmps14
    go_wp2_with fail
    refine (stealSwap_no_h H i j hi HJ.out IJ.out HB.out).mono ?_
    rintro r w1 ⟨rfl, H2⟩
    obtain ⟨y0, y1, y2, y3, y4, y5, y6, y7, y8, y9, fy⟩ := row10 (H2.get j (lset_same8 (set_get8 HJ.out _ IJ.out) _))
    clear x0 x1 x2 x3 x4 x5 x6 x7 x8 x9 fx
    go_wp2_with fail
    go_ret
    exact ⟨rfl, H2⟩

/-- One step of a machine. -/
theorem dqStep_h (m : Dq) (hj : cs[j]? = some (dqC _ xb e m)) (ok : EnOk e) (mo : DqOk m) :
    Calls Try.prog 14 #[.pointer (some ⟨xb, 0, none⟩), .pointer (some ⟨sb, 0, none⟩)] w fun r w' => r = .returned (.bool ((dqStep e l m).2.st == 0)) ∧
      Has w0 w' ((cs.set i (storeC _ sb g (dqStep e l m).1 (dqCount m n))).set j (dqC _ xb e (dqStep e l m).2)) := by
  obtain ⟨st, b, t, x, o, won⟩ := m
  obtain ⟨h1, h2, h3, h4⟩ := mo
  dsimp only at h1 h2 h3 h4
  match st, h1 with
  | 0, _ => exact dqStep0 H i j hi hij hj
  | 1, _ => exact dqStep1 H i j hi hij hj
  | 2, _ => exact dqStep2 H i j hi hij hj ok.room ok.rlo
  | 3, _ => exact dqStep3 H i j hi hij hj ok h2.1 h2.2
  | 4, _ => exact dqStep4 H i j hi hij hj
  | 5, _ => exact dqStep5 H i j hi hij hj
  | 6, _ => exact dqStep6 H i j hi hij hj
  | 7, _ => exact dqStep7 H i j hi hij hj
  | 8, _ => exact dqStep8 H i j hi hij hj ok h2.1 h2.2
  | 9, _ => exact dqStep9 H i j hi hij hj
  | 10, _ => exact dqStep10 H i j hi hij hj
  | 11, _ => exact dqStep11 H i j hi hij hj
  | 12, _ => exact dqStep12 H i j hi hij hj
  | 13, _ => exact dqStep13 H i j hi hij hj ok h3.1 h3.2
  | 14, _ => exact dqStep14 H i j hi hij hj
end

/-- What is told of a machine. -/
theorem Result_q {w0 w : World} {cs : List (Chunk w0.heap.size)} (H : Has w0 w cs) (j : Nat) {xb : Nat} {e : En} (m : Dq) (hj : cs[j]? = some (dqC _ xb e m)) (hs : m.st ≤ 14) :
    Calls Try.prog 15 #[.pointer (some ⟨xb, 0, none⟩)] w fun r w' => r = .returned (.tuple #[.int .i64 (dqOut m), .int .u64 (dqW m)]) ∧ ∃ n, w' = w.drewN n := by
  have f0 := fun (w : World) f b c => run_neq_func w (Try.underlying61) f b c
  have f1 := fun (w : World) => run_neq_nil w (Try.underlying61)
  obtain ⟨st, b, t, x, o, won⟩ := m
  dsimp only at hs
  have key : ∀ f bs cp, (w.heap[xb]? = some (.cells #[.int .i64 e.top, .int .i64 e.bottom, .int .i64 e.entry, .int .i64 e.room, .func f bs cp, .int .u64 b, .int .u64 t, .int .u64 x, .int .i64 o, .bool won] 63 (0, 0))) → Calls Try.prog 15 #[.pointer (some ⟨xb, 0, none⟩)] w fun r w' => r = .returned (.tuple #[.int .i64 0, .int .u64 0]) ∧ ∃ n, w' = w.drewN n := by
    intro f bs cp hb
    obtain ⟨x0, x1, x2, x3, x4, x5, x6, x7, x8, x9, fx⟩ := row10 hb
    clear hb
    go_enter Try.func15, Try.ntmps15
    go_wp2_with fail
    go_ret2
    exact ⟨rfl, 0, rfl⟩
  match st, hs, hj with
  | 0, _, hj =>
    have hj' : cs[j]? = some (dqB _ xb e .nilFunc b t x o won) := hj
    obtain ⟨x0, x1, x2, x3, x4, x5, x6, x7, x8, x9, fx⟩ := row10 (H.get j hj')
    clear key
    go_enter Try.func15, Try.ntmps15
    go_wp2_with fail
    go_quiet (fail)
    go_wp2_with fail
    go_ret2
    exact ⟨rfl, _, rfl⟩
  | 1, _, hj => exact key _ _ _ (H.get j (c := iniC _ xb e ⟨1, b, t, x, o, won⟩) hj).1
  | 2, _, hj => exact key _ _ _ (H.get j (c := dqB _ xb e (bnd 31 xb) b t x o won) hj)
  | 3, _, hj => exact key _ _ _ (H.get j (c := dqB _ xb e (bnd 34 xb) b t x o won) hj)
  | 4, _, hj => exact key _ _ _ (H.get j (c := dqB _ xb e (bnd 40 xb) b t x o won) hj)
  | 5, _, hj => exact key _ _ _ (H.get j (c := iniC _ xb e ⟨5, b, t, x, o, won⟩) hj).1
  | 6, _, hj => exact key _ _ _ (H.get j (c := dqB _ xb e (bnd 32 xb) b t x o won) hj)
  | 7, _, hj => exact key _ _ _ (H.get j (c := dqB _ xb e (bnd 37 xb) b t x o won) hj)
  | 8, _, hj => exact key _ _ _ (H.get j (c := dqB _ xb e (bnd 41 xb) b t x o won) hj)
  | 9, _, hj => exact key _ _ _ (H.get j (c := dqB _ xb e (bnd 44 xb) b t x o won) hj)
  | 10, _, hj => exact key _ _ _ (H.get j (c := dqB _ xb e (bnd 42 xb) b t x o won) hj)
  | 11, _, hj => exact key _ _ _ (H.get j (c := iniC _ xb e ⟨11, b, t, x, o, won⟩) hj).1
  | 12, _, hj => exact key _ _ _ (H.get j (c := dqB _ xb e (bnd 33 xb) b t x o won) hj)
  | 13, _, hj => exact key _ _ _ (H.get j (c := dqB _ xb e (bnd 38 xb) b t x o won) hj)
  | 14, _, hj => exact key _ _ _ (H.get j (c := dqB _ xb e (bnd 43 xb) b t x o won) hj)

end Go.Proofs.Ytlmmaijbppdckaa
