/- Step, Item, Tries, Push and Pop of package stack; machines that are none. Conditions: the machine's block, its links and the Store are there; words are words. -/
import Derived.Test.YtaciapjohakpgaaMach9
set_option linter.unusedVariables false
namespace Go.Proofs.Ytaciapjohakpgaa
open Go.ChangeShapes Go.WideShapes Go.ChangeAt Go.RowKit

theorem step0 (mb lb sb : Nat) (hd it h lk tr : Int) (w : World) (hm : MachAt w mb lb ⟨hd, it, h, 0, lk, tr⟩) :
    Calls Try.prog 18 #[.pointer (some ⟨mb, 0, none⟩), .pointer (some ⟨sb, 0, none⟩)] w fun e w' => e = .returned (.bool true) ∧ w' = w := by
  obtain ⟨c0, c1, c2, c3, c4, c5, c6, fz⟩ := row7 hm
  simp only [nextV] at c4
  have f1 := fun (w : World) => run_eql_nil w (Try.underlying73)
  go_enter Try.func18, Try.ntmps18
  go_wp2_with fail
  go_ret
  exact ⟨rfl, rfl⟩

theorem Step_c (sb g mb lb : Nat) (l ls : List Int) (n : Int) (m : Mac) (w : World) (hs : StoreAt w sb g l n) (hm : MachAt w mb lb m) (hn : mb ∉ [sb, g]) (hw : Ws l) (hk : MacOk m) (hL : LinksAt w [sb, g, mb] lb ls) (hl : ls.length < 1000000000000) :
    Calls Try.prog 18 #[.pointer (some ⟨mb, 0, none⟩), .pointer (some ⟨sb, 0, none⟩)] w fun e w' => e = .returned (.bool ((mstep ls l m).2.pc == 0)) ∧
      MachAt w' mb lb (mstep ls l m).2 ∧ StoreAt w' sb g (mstep ls l m).1 (mcount m n) ∧ Upd [sb, g, mb] w w' := by
  obtain ⟨hd, it, h, pc, lk, tr⟩ := m
  match pc, hm, hk with
  | 0, hm, hk =>
    refine (step0 mb lb sb hd it h lk tr w hm).mono ?_
    rintro e w' ⟨rfl, rfl⟩
    exact ⟨rfl, hm, hs, Upd.refl _ _⟩
  | 1, hm, hk => exact step1 sb g mb lb l ls n hd it h lk tr w hs hm hn hw hk hL hl
  | 2, hm, hk => exact step2 sb g mb lb l ls n hd it h lk tr w hs hm hn hw hk hL hl
  | 3, hm, hk => exact step3 sb g mb lb l ls n hd it h lk tr w hs hm hn hw hk hL hl
  | 4, hm, hk => exact step4 sb g mb lb l ls n hd it h lk tr w hs hm hn hw hk hL hl
  | 5, hm, hk => exact step5 sb g mb lb l ls n hd it h lk tr w hs hm hn hw hk hL hl
  | k + 6, hm, hk => exact step6 sb g mb lb l ls n hd it h lk tr k w hs hm hn hw hk hL hl

theorem mod32 (x : Int) : 0 ≤ x % 4294967296 ∧ x % 4294967296 < 4294967296 := by omega

theorem mstep_ok (ls l : List Int) (m : Mac) (hw : Ws l) (hk : MacOk m) : Ws (mstep ls l m).1 ∧ MacOk (mstep ls l m).2 := by
  obtain ⟨hd, it, h, pc, lk, tr⟩ := m
  obtain ⟨k0, k1, k2, k3, k4, k5⟩ := hk
  dsimp only at k0 k1 k2 k3 k4 k5
  have q := ws_mld hw hd
  have r := mod32 (mld l hd)
  have r2 := mod32 (mld l (lkAt ls it))
  have t1 := wTurn_ok h it k0 k1
  have t2 := wTurn_ok h lk k4 k5
  match pc with
  | 0 => exact ⟨hw, k0, k1, k2, k3, k4, k5⟩
  | 1 => exact ⟨hw, k0, k1, q.1, q.2, r.1, r.2⟩
  | 2 => exact ⟨ws_mput hw _ _ k4 (by show lk < _; omega), k0, k1, k2, k3, k4, k5⟩
  | 3 => exact ⟨ws_mswap hw _ _ _ t1.1 t1.2, k0, k1, k2, k3, k4, k5⟩
  | 4 => exact ⟨hw, r.1, r.2, q.1, q.2, k4, k5⟩
  | 5 => exact ⟨hw, k0, k1, k2, k3, r2.1, r2.2⟩
  | k + 6 => exact ⟨ws_mswap hw _ _ _ t2.1 t2.2, k0, k1, k2, k3, k4, k5⟩

theorem mput_len (l : List Int) (i x : Int) : (mput l i x).length = l.length := mput_length l i x
theorem mswap_len (l : List Int) (i o x : Int) : (mswap l i o x).length = l.length := by
  unfold mswap; split
  · exact mput_length _ _ _
  · rfl

theorem mstep_len (ls l : List Int) (m : Mac) : (mstep ls l m).1.length = l.length := by
  obtain ⟨hd, it, h, pc, lk, tr⟩ := m
  match pc with
  | 0 => rfl
  | 1 => rfl
  | 2 => exact mput_len _ _ _
  | 3 => exact mswap_len _ _ _ _
  | 4 => rfl
  | 5 => rfl
  | k + 6 => exact mswap_len _ _ _ _

/-- What Item tells. -/
def mitem (m : Mac) : Int := match m.pc with | 0 => m.item | _ => 0

theorem Item_c (mb lb : Nat) (m : Mac) (w : World) (hm : MachAt w mb lb m) (hk : MacOk m) :
    Calls Try.prog 22 #[.pointer (some ⟨mb, 0, none⟩)] w fun e w' => e = .returned (.int .i64 (mitem m)) ∧ w' = w := by
  obtain ⟨hd, it, h, pc, lk, tr⟩ := m
  obtain ⟨k0, k1, k2, k3, k4, k5⟩ := hk
  dsimp only at k0 k1
  have e1 : IntKind.i64.wrap it = it := wrapi64_id _ (by omega) (by omega)
  have f0 := fun (w : World) f b c => run_neq_func w (Try.underlying73) f b c
  have f1 := fun (w : World) => run_neq_nil w (Try.underlying73)
  match pc, hm with
  | 0, hm =>
    obtain ⟨c0, c1, c2, c3, c4, c5, c6, fz⟩ := row7 hm
    simp only [nextV] at c4
    go_enter Try.func22, Try.ntmps22
    go_wp2_with fail
    go_ret
    exact ⟨rfl, rfl⟩
  | 1, hm =>
    obtain ⟨c0, c1, c2, c3, c4, c5, c6, fz⟩ := row7 hm
    simp only [nextV] at c4
    go_enter Try.func22, Try.ntmps22
    go_wp2_with fail
    go_ret
    exact ⟨rfl, rfl⟩
  | 2, hm =>
    obtain ⟨c0, c1, c2, c3, c4, c5, c6, fz⟩ := row7 hm
    simp only [nextV] at c4
    go_enter Try.func22, Try.ntmps22
    go_wp2_with fail
    go_ret
    exact ⟨rfl, rfl⟩
  | 3, hm =>
    obtain ⟨c0, c1, c2, c3, c4, c5, c6, fz⟩ := row7 hm
    simp only [nextV] at c4
    go_enter Try.func22, Try.ntmps22
    go_wp2_with fail
    go_ret
    exact ⟨rfl, rfl⟩
  | 4, hm =>
    obtain ⟨c0, c1, c2, c3, c4, c5, c6, fz⟩ := row7 hm
    simp only [nextV] at c4
    go_enter Try.func22, Try.ntmps22
    go_wp2_with fail
    go_ret
    exact ⟨rfl, rfl⟩
  | 5, hm =>
    obtain ⟨c0, c1, c2, c3, c4, c5, c6, fz⟩ := row7 hm
    simp only [nextV] at c4
    go_enter Try.func22, Try.ntmps22
    go_wp2_with fail
    go_ret
    exact ⟨rfl, rfl⟩
  | k + 6, hm =>
    obtain ⟨c0, c1, c2, c3, c4, c5, c6, fz⟩ := row7 hm
    simp only [nextV] at c4
    go_enter Try.func22, Try.ntmps22
    go_wp2_with fail
    go_ret
    exact ⟨rfl, rfl⟩

theorem Tries_c (mb lb : Nat) (m : Mac) (w : World) (hm : MachAt w mb lb m) :
    Calls Try.prog 17 #[.pointer (some ⟨mb, 0, none⟩)] w fun e w' => e = .returned (.int .i64 m.tries) ∧ w' = w := by
  obtain ⟨c0, c1, c2, c3, c4, c5, c6, fz⟩ := row7 hm
  go_enter Try.func17, Try.ntmps17
  go_wp2_with fail
  go_ret
  exact ⟨rfl, rfl⟩

theorem Step_nil (v : Value) (w : World) : Calls Try.prog 18 #[.pointer none, v] w fun e w' => e = .returned (.bool true) ∧ w' = w := by
  go_enter Try.func18, Try.ntmps18
  go_wp2_with fail
  go_ret
  exact ⟨rfl, rfl⟩

theorem Item_nil (w : World) : Calls Try.prog 22 #[.pointer none] w fun e w' => e = .returned (.int .i64 0) ∧ w' = w := by
  go_enter Try.func22, Try.ntmps22
  go_wp2_with fail
  go_ret
  exact ⟨rfl, rfl⟩

theorem Tries_nil (w : World) : Calls Try.prog 17 #[.pointer none] w fun e w' => e = .returned (.int .i64 0) ∧ w' = w := by
  go_enter Try.func17, Try.ntmps17
  go_wp2_with fail
  go_ret
  exact ⟨rfl, rfl⟩

/-- The thing that is put, of a number. -/
def itemOf (i : Int) : Int := if 0 ≤ i ∧ i ≤ 4294967295 then i else 0
def pushM (head item : Int) : Mac := ⟨head, itemOf item, 0, 1, 0, 0⟩
def popM (head : Int) : Mac := ⟨head, 0, 0, 4, 0, 0⟩

theorem itemOf_ok (i : Int) : 0 ≤ itemOf i ∧ itemOf i < 4294967296 := by unfold itemOf; split <;> omega
theorem pushM_ok (h i : Int) : MacOk (pushM h i) := by
  have := itemOf_ok i
  exact ⟨this.1, this.2, by show (0 : Int) ≤ 0; omega, by show (0 : Int) < _; omega, by show (0 : Int) ≤ 0; omega, by show (0 : Int) < _; omega⟩
theorem popM_ok (h : Int) : MacOk (popM h) := by
  refine ⟨?_, ?_, ?_, ?_, ?_, ?_⟩ <;> simp [popM]

theorem Pop_c (lb : Nat) (head : Int) (w : World) :
    Calls Try.prog 14 #[.int .i64 head, linkV lb] w fun e w' => e = .returned (.pointer (some ⟨w.heap.size, 0, none⟩)) ∧ MachAt w' w.heap.size lb (popM head) ∧ w.heap.size < w'.heap.size ∧ Below w.heap.size w w' := by
  unfold linkV
  go_enter Try.func14, Try.ntmps14
  go_wp2_with fail
  go_ret
  exact ⟨rfl, blk_new w _ 0, by simp, below_box w _ 0⟩

theorem Push_c (lb : Nat) (head item : Int) (w : World) (h0 : -9223372036854775808 ≤ item) (h1 : item < 9223372036854775808) :
    Calls Try.prog 15 #[.int .i64 head, linkV lb, .int .i64 item] w fun e w' => e = .returned (.pointer (some ⟨w.heap.size, 0, none⟩)) ∧ MachAt w' w.heap.size lb (pushM head item) ∧ w.heap.size < w'.heap.size ∧ Below w.heap.size w w' := by
  unfold linkV
  by_cases hi : 0 ≤ item ∧ item ≤ 4294967295
  · have e1 : itemOf item = item := if_pos hi
    have e2 : IntKind.u32.wrap item = item := wrapu32_id _ (by omega) (by omega)
    have g0 : decide (item < 0) = false := by simp; omega
    have g1 : decide (4294967295 < item) = false := by simp; omega
    have E := Lib.hid e1
    clear e1 hi
    go_enter Try.func15, Try.ntmps15
    go_wp2_with fail
    go_ret
    refine ⟨rfl, ?_, by simp, below_box w _ 0⟩
    unfold MachAt pushM
    rw [E.out]
    exact blk_new w _ 0
  · have e1 : itemOf item = 0 := if_neg hi
    have E := Lib.hid e1
    clear e1
    by_cases hlt : item < 0
    · clear hi
      go_enter Try.func15, Try.ntmps15
      go_wp2_with fail
      go_ret
      refine ⟨rfl, ?_, by simp, below_box w _ 0⟩
      unfold MachAt pushM
      rw [E.out]
      exact blk_new w _ 0
    · have g0 : decide (item < 0) = false := by simp; omega
      have g1 : 4294967295 < item := by omega
      clear hi hlt
      go_enter Try.func15, Try.ntmps15
      go_wp2_with fail
      go_ret
      refine ⟨rfl, ?_, by simp, below_box w _ 0⟩
      unfold MachAt pushM
      rw [E.out]
      exact blk_new w _ 0

end Go.Proofs.Ytaciapjohakpgaa
