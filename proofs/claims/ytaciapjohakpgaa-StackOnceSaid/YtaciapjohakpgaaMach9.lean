/- The machines of package stack, step by step: each method does what the chapter tells. Conditions: the machine's block, its links and the Store are there; words are words. -/
import Derived.Test.YtaciapjohakpgaaStack
import Derived.Test.YtaciapjohakpgaaWords
import Derived.Test.YtaciapjohakpgaaFunc
import Derived.Deep.RegionHeld3
set_option linter.unusedVariables false
namespace Go.Proofs.Ytaciapjohakpgaa
open Go.ChangeShapes Go.WideShapes Go.ChangeAt Go.RowKit

/-- All are words. -/
def Ws (l : List Int) : Prop := ∀ x ∈ l, 0 ≤ x ∧ x < 18446744073709551616

theorem ws_mld {l : List Int} (h : Ws l) (i : Int) : 0 ≤ mld l i ∧ mld l i < 18446744073709551616 := by
  by_cases h0 : 0 ≤ i ∧ i < l.length
  · rw [mld_in h0]
    have hj : i.toNat < l.length := by omega
    simp only [List.getD, List.getElem?_eq_getElem hj, Option.getD_some]
    exact h _ (List.getElem_mem hj)
  · rw [mld_out h0]; omega

theorem ws_mput {l : List Int} (h : Ws l) (i x : Int) (h0 : 0 ≤ x) (h1 : x < 18446744073709551616) : Ws (mput l i x) := by
  by_cases hi : 0 ≤ i ∧ i < l.length
  · rw [mput_in hi]
    intro y hy
    rcases List.mem_or_eq_of_mem_set hy with q | rfl
    · exact h y q
    · exact ⟨h0, h1⟩
  · rw [mput_out hi]; exact h

theorem ws_mswap {l : List Int} (h : Ws l) (i o x : Int) (h0 : 0 ≤ x) (h1 : x < 18446744073709551616) : Ws (mswap l i o x) := by
  unfold mswap; split
  · exact ws_mput h i x h0 h1
  · exact h

theorem wTurn_ok (x l : Int) (l0 : 0 ≤ l) (l1 : l < 4294967296) : 0 ≤ wTurn x l ∧ wTurn x l < 18446744073709551616 := by unfold wTurn; omega

structure Mac where
  head : Int
  item : Int
  h : Int
  pc : Nat
  link : Int
  tries : Int

/-- The step that is next: 0 none, 1 to 3 a push's, 4 to 6 a pop's. -/
def nextV (mb : Nat) : Nat → Value
  | 0 => .nilFunc
  | 1 => .func (.func 36) #[.pointer (some ⟨mb, 0, none⟩)] #[]
  | 2 => .func (.func 42) #[.pointer (some ⟨mb, 0, none⟩)] #[]
  | 3 => .func (.func 48) #[.pointer (some ⟨mb, 0, none⟩)] #[]
  | 4 => .func (.func 35) #[.pointer (some ⟨mb, 0, none⟩)] #[]
  | 5 => .func (.func 41) #[.pointer (some ⟨mb, 0, none⟩)] #[]
  | _ => .func (.func 47) #[.pointer (some ⟨mb, 0, none⟩)] #[]

def linkV (lb : Nat) : Value := .func (.func 31) #[] #[.pointer (some ⟨lb, 0, none⟩)]

def MachAt (w : World) (mb lb : Nat) (m : Mac) : Prop :=
  w.heap[mb]? = some (.cells #[.int .i64 m.head, linkV lb, .int .u32 m.item, .int .u64 m.h, nextV mb m.pc, .int .u32 m.link, .int .i64 m.tries] 75 (0, 0))

def MacOk (m : Mac) : Prop := 0 ≤ m.item ∧ m.item < 4294967296 ∧ 0 ≤ m.h ∧ m.h < 18446744073709551616 ∧ 0 ≤ m.link ∧ m.link < 4294967296

theorem mach_upd {w w' : World} {mb lb : Nat} {m : Mac} {S : List Nat} (h : MachAt w mb lb m) (u : Upd S w w') (hn : mb ∉ S) : MachAt w' mb lb m := u.blk h hn
theorem mach_lt {w : World} {mb lb : Nat} {m : Mac} (h : MachAt w mb lb m) : mb < w.heap.size := blk_lt h

def pcIf (b : Bool) (n : Nat) : Nat := bif b then 0 else n

theorem look_c (sb g mb lb : Nat) (l : List Int) (n : Int) (m : Mac) (w : World) (hs : StoreAt w sb g l n) (hm : MachAt w mb lb m) (hn : mb ∉ [sb, g]) (hw : Ws l) :
    Calls Try.prog 40 #[.pointer (some ⟨mb, 0, none⟩), .pointer (some ⟨sb, 0, none⟩)] w fun e w' => e = .returned (.int .u32 (mld l m.head % 4294967296)) ∧
      MachAt w' mb lb { m with h := mld l m.head, tries := wrap64 (m.tries + 1) } ∧ StoreAt w' sb g l (wrap64 (n + 1)) ∧ Upd [sb, g, mb] w w' := by
  obtain ⟨c0, c1, c2, c3, c4, c5, c6, fz⟩ := row7 hm
  obtain ⟨x0, x1⟩ := ws_mld hw m.head
  go_enter Try.func40, Try.ntmps40
  go_wp2_with fail
  have hs1 := store_upd hs ((Upd.refl [mb] w).setCell (p := ⟨mb, 6, none⟩) (by simp) (.int .i64 (wrap64 (m.tries + 1)))) (by simp at hn ⊢; omega) (by simp at hn ⊢; omega)
  have B1 := set_same hm 6 (.int .i64 (wrap64 (m.tries + 1)))
  clear c0 c1 c2 c3 c4 c5 c6 fz
  refine (Load_c _ _ _ _ _ _ hs1).mono ?_
  rintro e w1 ⟨rfl, s1, u1⟩
  have B2 := u1.blk B1 hn
  obtain ⟨c0, c1, c2, c3, c4, c5, c6, fz⟩ := row7 B2
  go_wp2_with fail
  clear c0 c1 c2 c3 c4 c5 c6 fz
  refine (Split_c _ x0 x1 _).mono ?_
  rintro e w2 ⟨rfl, k, rfl⟩
  go_wp2_with fail
  go_ret
  have s2 := store_upd s1 ((Upd.refl [mb] w1).setCell (p := ⟨mb, 3, none⟩) (by simp) (.int .u64 (mld l m.head))) (by simp at hn ⊢; omega) (by simp at hn ⊢; omega)
  refine ⟨rfl, set_same B2 3 _, s2, ?_⟩
  exact ((((Upd.refl _ _).setCell (by simp) _).trans (u1.mono (by simp))).setCell (by simp) _).drewN _

/-- A step of a machine: memory and the machine. -/
def mstep (ls : List Int) (l : List Int) (m : Mac) : List Int × Mac :=
  match m.pc with
  | 0 => (l, m)
  | 1 => (l, { m with h := mld l m.head, tries := wrap64 (m.tries + 1), link := mld l m.head % 4294967296, pc := 2 })
  | 2 => (mput l (lkAt ls m.item) m.link, { m with pc := 3 })
  | 3 => (mswap l m.head m.h (wTurn m.h m.item), { m with pc := pcIf (mswapped l m.head m.h) 1 })
  | 4 => (l, { m with h := mld l m.head, tries := wrap64 (m.tries + 1), item := mld l m.head % 4294967296, pc := pcIf (mld l m.head % 4294967296 == 0) 5 })
  | 5 => (l, { m with link := mld l (lkAt ls m.item) % 4294967296, pc := 6 })
  | _ => (mswap l m.head m.h (wTurn m.h m.link), { m with pc := pcIf (mswapped l m.head m.h) 4 })

theorem pushHead_c (sb g mb lb : Nat) (l ls : List Int) (n : Int) (m : Mac) (w : World) (hs : StoreAt w sb g l n) (hm : MachAt w mb lb m) (hn : mb ∉ [sb, g]) (hw : Ws l) :
    Calls Try.prog 36 #[.pointer (some ⟨mb, 0, none⟩), .pointer (some ⟨sb, 0, none⟩)] w fun e w' => e = .returned (.tuple #[]) ∧
      MachAt w' mb lb { m with h := mld l m.head, tries := wrap64 (m.tries + 1), link := mld l m.head % 4294967296, pc := 2 } ∧ StoreAt w' sb g l (wrap64 (n + 1)) ∧ Upd [sb, g, mb] w w' := by
  go_enter Try.func36, Try.ntmps36
  go_wp2_with fail
  refine (look_c _ _ _ _ _ _ _ _ hs hm hn hw).mono ?_
  rintro e w1 ⟨rfl, m1, s1, u1⟩
  obtain ⟨c0, c1, c2, c3, c4, c5, c6, fz⟩ := row7 m1
  go_wp2_with fail
  go_end0
  have uu := ((Upd.refl [mb] w1).setCell (p := ⟨mb, 5, none⟩) (by simp) (.int .u32 (mld l m.head % 4294967296))).setCell (p := ⟨mb, 4, none⟩) (by simp) (nextV mb 2)
  refine ⟨rfl, set_same (set_same m1 5 _) 4 _, store_upd s1 uu (by simp at hn ⊢; omega) (by simp at hn ⊢; omega), u1.trans (uu.mono (by simp))⟩

theorem popHead_c (sb g mb lb : Nat) (l ls : List Int) (n : Int) (m : Mac) (w : World) (hs : StoreAt w sb g l n) (hm : MachAt w mb lb m) (hn : mb ∉ [sb, g]) (hw : Ws l) :
    Calls Try.prog 35 #[.pointer (some ⟨mb, 0, none⟩), .pointer (some ⟨sb, 0, none⟩)] w fun e w' => e = .returned (.tuple #[]) ∧
      MachAt w' mb lb { m with h := mld l m.head, tries := wrap64 (m.tries + 1), item := mld l m.head % 4294967296, pc := pcIf (mld l m.head % 4294967296 == 0) 5 } ∧ StoreAt w' sb g l (wrap64 (n + 1)) ∧ Upd [sb, g, mb] w w' := by
  by_cases hz : mld l m.head % 4294967296 = 0
  · have hp : (pcIf (mld l m.head % 4294967296 == 0) 5) = 0 := by rw [show (mld l m.head % 4294967296 == 0) = true by simpa using hz]; rfl
    rw [hp]
    have Z := Lib.hid hz
    have Z1 : (mld l m.head % 4294967296 == 0) = true := by simpa using hz
    clear hp hz
    go_enter Try.func35, Try.ntmps35
    go_wp2_with fail
    refine (look_c _ _ _ _ _ _ _ _ hs hm hn hw).mono ?_
    rintro e w1 ⟨rfl, m1, s1, u1⟩
    obtain ⟨c0, c1, c2, c3, c4, c5, c6, fz⟩ := row7 m1
    go_wp2_with fail
    go_end0
    have uu := (((Upd.refl [mb] w1).setCell (p := ⟨mb, 2, none⟩) (by simp) (.int .u32 (mld l m.head % 4294967296))).setCell (p := ⟨mb, 4, none⟩) (by simp) (nextV mb 5)).setCell (p := ⟨mb, 4, none⟩) (by simp) .nilFunc
    refine ⟨rfl, set_same (set_same (set_same m1 2 _) 4 _) 4 _, store_upd s1 uu (by simp at hn ⊢; omega) (by simp at hn ⊢; omega), u1.trans (uu.mono (by simp))⟩
  · have hp : (pcIf (mld l m.head % 4294967296 == 0) 5) = 5 := by rw [show (mld l m.head % 4294967296 == 0) = false by simpa using hz]; rfl
    rw [hp]
    have Z1 : (mld l m.head % 4294967296 == 0) = false := by simpa using hz
    clear hp hz
    go_enter Try.func35, Try.ntmps35
    go_wp2_with fail
    refine (look_c _ _ _ _ _ _ _ _ hs hm hn hw).mono ?_
    rintro e w1 ⟨rfl, m1, s1, u1⟩
    obtain ⟨c0, c1, c2, c3, c4, c5, c6, fz⟩ := row7 m1
    go_wp2_with fail
    go_end0
    have uu := ((Upd.refl [mb] w1).setCell (p := ⟨mb, 2, none⟩) (by simp) (.int .u32 (mld l m.head % 4294967296))).setCell (p := ⟨mb, 4, none⟩) (by simp) (nextV mb 5)
    refine ⟨rfl, set_same (set_same m1 2 _) 4 _, store_upd s1 uu (by simp at hn ⊢; omega) (by simp at hn ⊢; omega), u1.trans (uu.mono (by simp))⟩

/-- What pushLink asks of the world, behind the region's draw. -/
theorem pushLink_c (sb g mb lb : Nat) (l ls : List Int) (n : Int) (m : Mac) (w : World) (hs : StoreAt w sb g l n) (hm : MachAt w mb lb m) (hn : mb ∉ [sb, g]) (hk : MacOk m) (hL : LinksAt w [sb, g, mb] lb ls) (hl : ls.length < 1000000000000) :
    Calls Try.prog 42 #[.pointer (some ⟨mb, 0, none⟩), .pointer (some ⟨sb, 0, none⟩)] w fun e w' => e = .returned (.tuple #[]) ∧
      MachAt w' mb lb { m with pc := 3 } ∧ StoreAt w' sb g (mput l (lkAt ls m.item) m.link) (wrap64 (n + 1)) ∧ Upd [sb, g, mb] w w' := by
  obtain ⟨k0, k1, k2, k3, k4, k5⟩ := hk
  have lt := mach_lt hm
  have e1 : IntKind.i64.wrap m.item = m.item := wrapi64_id _ (by omega) (by omega)
  have e2 : IntKind.u64.wrap m.link = m.link := by rw [IntKind.wrap_u64]; omega
  go_enter Try.func42, Try.ntmps42
  obtain ⟨c0, c1, c2, c3, c4, c5, c6, fz⟩ := row7 (w := w.drew) hm
  have hs' : StoreAt w.drew sb g l n := hs
  have hL' : LinksAt w.drew [sb, g, mb] lb ls := hL
  have lt' : mb < w.drew.heap.size := lt
  unfold linkV at c1
  go_wp2_with fail
  go_region_held3 (fun w' => w'.cell? ⟨mb, 1, none⟩ = some (.func (.func 31) #[] #[.pointer (some ⟨lb, 0, none⟩)]) ∧ w'.cell? ⟨mb, 2, none⟩ = some (.int .u32 m.item) ∧ w'.cell? ⟨mb, 5, none⟩ = some (.int .u32 m.link)) (first | (refine ⟨?_, ?_, ?_⟩ <;> assumption) | (simp; done)) (first | (go_at_call 31; refine (Link_c lb ls _ _ hL' hl k0).mono ?_; rintro e w4 ⟨rfl, hw⟩; obtain rfl := hw.symm) | (go_at_call 29; refine (Put_c _ _ _ _ _ _ _ hs').mono ?_; rintro e w3 ⟨rfl, s3, u3⟩; have d1 := cell_upd c1 u3 lt' hn; have d2 := cell_upd c2 u3 lt' hn; have d5 := cell_upd c5 u3 lt' hn))
  have m3 : MachAt w3 mb lb m := u3.blk (a := w.drew) hm hn
  clear c0 c1 c2 c3 c4 c5 c6 fz d1 d2 d5
  obtain ⟨c0, c1, c2, c3, c4, c5, c6, fz⟩ := row7 m3
  go_wp2_with fail
  go_end0
  have uu := (Upd.refl [mb] w3).setCell (p := ⟨mb, 4, none⟩) (by simp) (nextV mb 3)
  refine ⟨rfl, set_same m3 4 _, store_upd s3 uu (by simp at hn ⊢; omega) (by simp at hn ⊢; omega), (((Upd.refl _ w).drewN 1).trans (u3.mono (by simp))).trans (uu.mono (by simp))⟩

theorem set_cell5 {w : World} {mb o p : Nat} {u : Value} (v : Value) (h : w.cell? ⟨mb, o, none⟩ = some u) (hne : p ≠ o) : (w.setCell ⟨mb, p, none⟩ v).cell? ⟨mb, o, none⟩ = some u := by
  exact (World.cell?_setCell_other _ _ _ _ (fun q => hne (congrArg Addr.off q))).trans h

theorem popLink_c (sb g mb lb : Nat) (l ls : List Int) (n : Int) (m : Mac) (w : World) (hs : StoreAt w sb g l n) (hm : MachAt w mb lb m) (hn : mb ∉ [sb, g]) (hk : MacOk m) (hL : LinksAt w [sb, g, mb] lb ls) (hl : ls.length < 1000000000000) :
    Calls Try.prog 41 #[.pointer (some ⟨mb, 0, none⟩), .pointer (some ⟨sb, 0, none⟩)] w fun e w' => e = .returned (.tuple #[]) ∧
      MachAt w' mb lb { m with link := mld l (lkAt ls m.item) % 4294967296, pc := 6 } ∧ StoreAt w' sb g l (wrap64 (n + 1)) ∧ Upd [sb, g, mb] w w' := by
  obtain ⟨k0, k1, k2, k3, k4, k5⟩ := hk
  have lt := mach_lt hm
  have e1 : IntKind.i64.wrap m.item = m.item := wrapi64_id _ (by omega) (by omega)
  have e2 := wrapu32 (mld l (lkAt ls m.item))
  go_enter Try.func41, Try.ntmps41
  obtain ⟨c0, c1, c2, c3, c4, c5, c6, fz⟩ := row7 (w := w.drew) hm
  have hs' : StoreAt w.drew sb g l n := hs
  have hL' : LinksAt w.drew [sb, g, mb] lb ls := hL
  have lt' : mb < w.drew.heap.size := lt
  unfold linkV at c1
  go_wp2_with fail
  go_region_held3 (fun w' => w'.cell? ⟨mb, 1, none⟩ = some (.func (.func 31) #[] #[.pointer (some ⟨lb, 0, none⟩)]) ∧ w'.cell? ⟨mb, 2, none⟩ = some (.int .u32 m.item)) (first | (refine ⟨?_, ?_⟩ <;> assumption) | (exact ⟨f1 _, f2 _⟩)) (first | (go_at_call 31; refine (Link_c lb ls _ _ hL' hl k0).mono ?_; rintro e w4 ⟨rfl, hw⟩; obtain rfl := hw.symm) | (go_at_call 19; refine (Load_c _ _ _ _ _ _ hs').mono ?_; rintro e w3 ⟨rfl, s3, u3⟩; have d1 := cell_upd c1 u3 lt' hn; have d2 := cell_upd c2 u3 lt' hn; have d5 := cell_upd c5 u3 lt' hn; have m3 : MachAt w3 mb lb m := u3.blk (a := w.drew) hm hn; have f1 := fun v => set_cell5 (w := w3) (o := 1) (p := 5) v d1 (by decide); have f2 := fun v => set_cell5 (w := w3) (o := 2) (p := 5) v d2 (by decide); have fz3 : ∀ o, w3.frozen? ⟨mb, o, none⟩ = false := blk_frozen m3))
  clear c0 c1 c2 c3 c4 c5 c6 fz d1 d2 d5 fz3 f1 f2
  have B4 := set_same m3 5 (.int .u32 (mld l (lkAt ls m.item) % 4294967296))
  obtain ⟨c0, c1, c2, c3, c4, c5, c6, fz⟩ := row7 B4
  go_wp2_with fail
  go_end0
  have uu := ((Upd.refl [mb] w3).setCell (p := ⟨mb, 5, none⟩) (by simp) (.int .u32 (mld l (lkAt ls m.item) % 4294967296))).setCell (p := ⟨mb, 4, none⟩) (by simp) (nextV mb 6)
  refine ⟨rfl, set_same B4 4 _, store_upd s3 uu (by simp at hn ⊢; omega) (by simp at hn ⊢; omega), (((Upd.refl _ w).drewN 1).trans (u3.mono (by simp))).trans (uu.mono (by simp))⟩

theorem turn_c (sb g mb lb : Nat) (l : List Int) (n low : Int) (m : Mac) (again : Nat) (fn : Fn) (w : World) (hnx : nextV mb again = .func fn #[.pointer (some ⟨mb, 0, none⟩)] #[]) (hs : StoreAt w sb g l n) (hm : MachAt w mb lb m) (hn : mb ∉ [sb, g]) (hk : MacOk m) (l0 : 0 ≤ low) (l1 : low < 4294967296) :
    Calls Try.prog 50 #[.pointer (some ⟨mb, 0, none⟩), .pointer (some ⟨sb, 0, none⟩), .int .u32 low, .func fn #[.pointer (some ⟨mb, 0, none⟩)] #[]] w fun e w' => e = .returned (.tuple #[]) ∧
      MachAt w' mb lb { m with pc := pcIf (mswapped l m.head m.h) again } ∧ StoreAt w' sb g (mswap l m.head m.h (wTurn m.h low)) (wrap64 (n + 1)) ∧ Upd [sb, g, mb] w w' := by
  obtain ⟨k0, k1, k2, k3, k4, k5⟩ := hk
  have lt := mach_lt hm
  have HM := Lib.hid hm
  obtain ⟨c0, c1, c2, c3, c4, c5, c6, fz⟩ := row7 hm
  have NX := Lib.hid hnx
  clear hnx
  go_enter Try.func50, Try.ntmps50
  go_wp2_with fail
  clear c0 c1 c2 c3 c4 c5 c6 fz
  obtain ⟨W, HW⟩ : ∃ W, Hid (W = w.setCell ⟨mb, 4, none⟩ (.func fn #[.pointer (some ⟨mb, 0, none⟩)] #[])) := ⟨_, Lib.hid rfl⟩
  have uW : Upd [mb] w W := by rw [HW.out]; exact (Upd.refl [mb] w).setCell (by simp) _
  have mW : MachAt W mb lb { m with pc := again } := by rw [HW.out]; rw [← NX.out]; exact set_same HM.out 4 _
  rw [← HW.out]
  have sW := store_upd hs uW (by simp at hn ⊢; omega) (by simp at hn ⊢; omega)
  obtain ⟨c0, c1, c2, c3, c4, c5, c6, fz⟩ := row7 (w := W.drew) mW
  have hs' : StoreAt W.drew sb g l n := sW
  have lt' : mb < W.drew.heap.size := mach_lt mW
  clear hm
  go_region_held3 (fun w' => w'.cell? ⟨mb, 0, none⟩ = some (.int .i64 m.head) ∧ w'.cell? ⟨mb, 3, none⟩ = some (.int .u64 m.h)) (first | (refine ⟨?_, ?_⟩ <;> assumption) | (simp; done)) (first | (go_at_call 52; refine (Turn_c _ _ k2 k3 l0 l1 _).mono ?_; rintro e w4 ⟨rfl, dn, rfl⟩; have q0 : (W.drewN (1 + dn)).cell? ⟨mb, 0, none⟩ = some (.int .i64 m.head) := c0; have q3 : (W.drewN (1 + dn)).cell? ⟨mb, 3, none⟩ = some (.int .u64 m.h) := c3) | (go_at_call 51; refine (Swap_c _ _ _ _ _ _ _ _ (store_drewN sW _)).mono ?_; rintro e w3 ⟨rfl, s3, u3'⟩; have u3 := u3'.undrew; have d0 := cell_upd (w := W) c0 u3 lt' hn; have d3 := cell_upd (w := W) c3 u3 lt' hn))
  have m3 : MachAt w3 mb lb { m with pc := again } := u3.blk mW hn
  have uu3 : Upd [sb, g, mb] w w3 := (uW.mono (by simp)).trans (u3.mono (by simp))
  have uu := (Upd.refl [mb] w3).setCell (p := ⟨mb, 4, none⟩) (by simp) .nilFunc
  clear c0 c1 c2 c3 c4 c5 c6 fz d0 d3 q0 q3
  obtain ⟨c0, c1, c2, c3, c4, c5, c6, fz⟩ := row7 m3
  go_wp2_with fail
  all_goals (go_end0)
  · exact ⟨rfl, set_same m3 4 _, store_upd s3 uu (by simp at hn ⊢; omega) (by simp at hn ⊢; omega), uu3.trans (uu.mono (by simp))⟩
  · exact ⟨rfl, m3, s3, uu3⟩

theorem pushSwap_c (sb g mb lb : Nat) (l : List Int) (n : Int) (m : Mac) (w : World) (hs : StoreAt w sb g l n) (hm : MachAt w mb lb m) (hn : mb ∉ [sb, g]) (hk : MacOk m) :
    Calls Try.prog 48 #[.pointer (some ⟨mb, 0, none⟩), .pointer (some ⟨sb, 0, none⟩)] w fun e w' => e = .returned (.tuple #[]) ∧
      MachAt w' mb lb { m with pc := pcIf (mswapped l m.head m.h) 1 } ∧ StoreAt w' sb g (mswap l m.head m.h (wTurn m.h m.item)) (wrap64 (n + 1)) ∧ Upd [sb, g, mb] w w' := by
  obtain ⟨c0, c1, c2, c3, c4, c5, c6, fz⟩ := row7 hm
  go_enter Try.func48, Try.ntmps48
  go_wp2_with fail
  refine (turn_c sb g mb lb l n m.item m 1 _ _ rfl hs hm hn hk hk.1 hk.2.1).mono ?_
  rintro e w1 ⟨rfl, m1, s1, u1⟩
  go_wp2_with fail
  go_end0
  exact ⟨rfl, m1, s1, u1⟩

theorem popSwap_c (sb g mb lb : Nat) (l : List Int) (n : Int) (m : Mac) (w : World) (hs : StoreAt w sb g l n) (hm : MachAt w mb lb m) (hn : mb ∉ [sb, g]) (hk : MacOk m) :
    Calls Try.prog 47 #[.pointer (some ⟨mb, 0, none⟩), .pointer (some ⟨sb, 0, none⟩)] w fun e w' => e = .returned (.tuple #[]) ∧
      MachAt w' mb lb { m with pc := pcIf (mswapped l m.head m.h) 4 } ∧ StoreAt w' sb g (mswap l m.head m.h (wTurn m.h m.link)) (wrap64 (n + 1)) ∧ Upd [sb, g, mb] w w' := by
  obtain ⟨c0, c1, c2, c3, c4, c5, c6, fz⟩ := row7 hm
  go_enter Try.func47, Try.ntmps47
  go_wp2_with fail
  refine (turn_c sb g mb lb l n m.link m 4 _ _ rfl hs hm hn hk hk.2.2.2.2.1 hk.2.2.2.2.2).mono ?_
  rintro e w1 ⟨rfl, m1, s1, u1⟩
  go_wp2_with fail
  go_end0
  exact ⟨rfl, m1, s1, u1⟩

/-- Step: a machine that is finished stays as it is, and makes no access; another one makes its step, and one access. -/
def mcount (m : Mac) (n : Int) : Int := match m.pc with | 0 => n | _ => wrap64 (n + 1)

theorem step1 (sb g mb lb : Nat) (l ls : List Int) (n hd it h lk tr : Int) (w : World) (hs : StoreAt w sb g l n) (hm : MachAt w mb lb ⟨hd, it, h, 1, lk, tr⟩) (hn : mb ∉ [sb, g]) (hw : Ws l) (hk : MacOk ⟨hd, it, h, 1, lk, tr⟩) (hL : LinksAt w [sb, g, mb] lb ls) (hl : ls.length < 1000000000000) :
    Calls Try.prog 18 #[.pointer (some ⟨mb, 0, none⟩), .pointer (some ⟨sb, 0, none⟩)] w fun e w' => e = .returned (.bool ((mstep ls l ⟨hd, it, h, 1, lk, tr⟩).2.pc == 0)) ∧
      MachAt w' mb lb (mstep ls l ⟨hd, it, h, 1, lk, tr⟩).2 ∧ StoreAt w' sb g (mstep ls l ⟨hd, it, h, 1, lk, tr⟩).1 (wrap64 (n + 1)) ∧ Upd [sb, g, mb] w w' := by
  obtain ⟨c0, c1, c2, c3, c4, c5, c6, fz⟩ := row7 hm
  simp only [nextV] at c4
  have f0 := fun (w : World) f b c => run_eql_func w (Try.underlying73) f b c
  have f1 := fun (w : World) => run_eql_nil w (Try.underlying73)
  go_enter Try.func18, Try.ntmps18
  go_wp2_with fail
  refine (pushHead_c sb g mb lb l ls n _ w hs hm hn hw).mono ?_
  rintro e w1 ⟨rfl, m1, s1, u1⟩
  obtain ⟨d0, d1, d2, d3, d4, d5, d6, fz1⟩ := row7 m1
  simp only [nextV] at d4
  clear c0 c1 c2 c3 c4 c5 c6 fz
  go_wp2_with fail
  go_ret
  exact ⟨rfl, m1, s1, u1⟩

theorem step2 (sb g mb lb : Nat) (l ls : List Int) (n hd it h lk tr : Int) (w : World) (hs : StoreAt w sb g l n) (hm : MachAt w mb lb ⟨hd, it, h, 2, lk, tr⟩) (hn : mb ∉ [sb, g]) (hw : Ws l) (hk : MacOk ⟨hd, it, h, 2, lk, tr⟩) (hL : LinksAt w [sb, g, mb] lb ls) (hl : ls.length < 1000000000000) :
    Calls Try.prog 18 #[.pointer (some ⟨mb, 0, none⟩), .pointer (some ⟨sb, 0, none⟩)] w fun e w' => e = .returned (.bool ((mstep ls l ⟨hd, it, h, 2, lk, tr⟩).2.pc == 0)) ∧
      MachAt w' mb lb (mstep ls l ⟨hd, it, h, 2, lk, tr⟩).2 ∧ StoreAt w' sb g (mstep ls l ⟨hd, it, h, 2, lk, tr⟩).1 (wrap64 (n + 1)) ∧ Upd [sb, g, mb] w w' := by
  obtain ⟨c0, c1, c2, c3, c4, c5, c6, fz⟩ := row7 hm
  simp only [nextV] at c4
  have f0 := fun (w : World) f b c => run_eql_func w (Try.underlying73) f b c
  have f1 := fun (w : World) => run_eql_nil w (Try.underlying73)
  go_enter Try.func18, Try.ntmps18
  go_wp2_with fail
  refine (pushLink_c sb g mb lb l ls n _ w hs hm hn hk hL hl).mono ?_
  rintro e w1 ⟨rfl, m1, s1, u1⟩
  obtain ⟨d0, d1, d2, d3, d4, d5, d6, fz1⟩ := row7 m1
  simp only [nextV] at d4
  clear c0 c1 c2 c3 c4 c5 c6 fz
  go_wp2_with fail
  go_ret
  exact ⟨rfl, m1, s1, u1⟩

theorem step3 (sb g mb lb : Nat) (l ls : List Int) (n hd it h lk tr : Int) (w : World) (hs : StoreAt w sb g l n) (hm : MachAt w mb lb ⟨hd, it, h, 3, lk, tr⟩) (hn : mb ∉ [sb, g]) (hw : Ws l) (hk : MacOk ⟨hd, it, h, 3, lk, tr⟩) (hL : LinksAt w [sb, g, mb] lb ls) (hl : ls.length < 1000000000000) :
    Calls Try.prog 18 #[.pointer (some ⟨mb, 0, none⟩), .pointer (some ⟨sb, 0, none⟩)] w fun e w' => e = .returned (.bool ((mstep ls l ⟨hd, it, h, 3, lk, tr⟩).2.pc == 0)) ∧
      MachAt w' mb lb (mstep ls l ⟨hd, it, h, 3, lk, tr⟩).2 ∧ StoreAt w' sb g (mstep ls l ⟨hd, it, h, 3, lk, tr⟩).1 (wrap64 (n + 1)) ∧ Upd [sb, g, mb] w w' := by
  obtain ⟨c0, c1, c2, c3, c4, c5, c6, fz⟩ := row7 hm
  simp only [nextV] at c4
  have f0 := fun (w : World) f b c => run_eql_func w (Try.underlying73) f b c
  have f1 := fun (w : World) => run_eql_nil w (Try.underlying73)
  go_enter Try.func18, Try.ntmps18
  go_wp2_with fail
  refine (pushSwap_c sb g mb lb l n _ w hs hm hn hk).mono ?_
  rintro e w1 ⟨rfl, m1, s1, u1⟩
  obtain ⟨d0, d1, d2, d3, d4, d5, d6, fz1⟩ := row7 m1
  clear c0 c1 c2 c3 c4 c5 c6 fz
  cases hb : (mswapped l hd h) with
  | true =>
    simp only [hb, pcIf, cond_true, nextV] at d4
    go_wp2_with fail
    go_ret
    exact ⟨by simp [mstep, hb, pcIf], m1, s1, u1⟩
  | false =>
    simp only [hb, pcIf, cond_false, nextV] at d4
    go_wp2_with fail
    go_ret
    exact ⟨by simp [mstep, hb, pcIf], m1, s1, u1⟩

theorem step4 (sb g mb lb : Nat) (l ls : List Int) (n hd it h lk tr : Int) (w : World) (hs : StoreAt w sb g l n) (hm : MachAt w mb lb ⟨hd, it, h, 4, lk, tr⟩) (hn : mb ∉ [sb, g]) (hw : Ws l) (hk : MacOk ⟨hd, it, h, 4, lk, tr⟩) (hL : LinksAt w [sb, g, mb] lb ls) (hl : ls.length < 1000000000000) :
    Calls Try.prog 18 #[.pointer (some ⟨mb, 0, none⟩), .pointer (some ⟨sb, 0, none⟩)] w fun e w' => e = .returned (.bool ((mstep ls l ⟨hd, it, h, 4, lk, tr⟩).2.pc == 0)) ∧
      MachAt w' mb lb (mstep ls l ⟨hd, it, h, 4, lk, tr⟩).2 ∧ StoreAt w' sb g (mstep ls l ⟨hd, it, h, 4, lk, tr⟩).1 (wrap64 (n + 1)) ∧ Upd [sb, g, mb] w w' := by
  obtain ⟨c0, c1, c2, c3, c4, c5, c6, fz⟩ := row7 hm
  simp only [nextV] at c4
  have f0 := fun (w : World) f b c => run_eql_func w (Try.underlying73) f b c
  have f1 := fun (w : World) => run_eql_nil w (Try.underlying73)
  go_enter Try.func18, Try.ntmps18
  go_wp2_with fail
  refine (popHead_c sb g mb lb l ls n _ w hs hm hn hw).mono ?_
  rintro e w1 ⟨rfl, m1, s1, u1⟩
  obtain ⟨d0, d1, d2, d3, d4, d5, d6, fz1⟩ := row7 m1
  clear c0 c1 c2 c3 c4 c5 c6 fz
  cases hb : (mld l hd % 4294967296 == 0) with
  | true =>
    simp only [hb, pcIf, cond_true, nextV] at d4
    go_wp2_with fail
    go_ret
    exact ⟨by simp [mstep, hb, pcIf], m1, s1, u1⟩
  | false =>
    simp only [hb, pcIf, cond_false, nextV] at d4
    go_wp2_with fail
    go_ret
    exact ⟨by simp [mstep, hb, pcIf], m1, s1, u1⟩

theorem step5 (sb g mb lb : Nat) (l ls : List Int) (n hd it h lk tr : Int) (w : World) (hs : StoreAt w sb g l n) (hm : MachAt w mb lb ⟨hd, it, h, 5, lk, tr⟩) (hn : mb ∉ [sb, g]) (hw : Ws l) (hk : MacOk ⟨hd, it, h, 5, lk, tr⟩) (hL : LinksAt w [sb, g, mb] lb ls) (hl : ls.length < 1000000000000) :
    Calls Try.prog 18 #[.pointer (some ⟨mb, 0, none⟩), .pointer (some ⟨sb, 0, none⟩)] w fun e w' => e = .returned (.bool ((mstep ls l ⟨hd, it, h, 5, lk, tr⟩).2.pc == 0)) ∧
      MachAt w' mb lb (mstep ls l ⟨hd, it, h, 5, lk, tr⟩).2 ∧ StoreAt w' sb g (mstep ls l ⟨hd, it, h, 5, lk, tr⟩).1 (wrap64 (n + 1)) ∧ Upd [sb, g, mb] w w' := by
  obtain ⟨c0, c1, c2, c3, c4, c5, c6, fz⟩ := row7 hm
  simp only [nextV] at c4
  have f0 := fun (w : World) f b c => run_eql_func w (Try.underlying73) f b c
  have f1 := fun (w : World) => run_eql_nil w (Try.underlying73)
  go_enter Try.func18, Try.ntmps18
  go_wp2_with fail
  refine (popLink_c sb g mb lb l ls n _ w hs hm hn hk hL hl).mono ?_
  rintro e w1 ⟨rfl, m1, s1, u1⟩
  obtain ⟨d0, d1, d2, d3, d4, d5, d6, fz1⟩ := row7 m1
  simp only [nextV] at d4
  clear c0 c1 c2 c3 c4 c5 c6 fz
  go_wp2_with fail
  go_ret
  exact ⟨rfl, m1, s1, u1⟩

theorem step6 (sb g mb lb : Nat) (l ls : List Int) (n hd it h lk tr : Int) (k : Nat) (w : World) (hs : StoreAt w sb g l n) (hm : MachAt w mb lb ⟨hd, it, h, (k + 6), lk, tr⟩) (hn : mb ∉ [sb, g]) (hw : Ws l) (hk : MacOk ⟨hd, it, h, (k + 6), lk, tr⟩) (hL : LinksAt w [sb, g, mb] lb ls) (hl : ls.length < 1000000000000) :
    Calls Try.prog 18 #[.pointer (some ⟨mb, 0, none⟩), .pointer (some ⟨sb, 0, none⟩)] w fun e w' => e = .returned (.bool ((mstep ls l ⟨hd, it, h, (k + 6), lk, tr⟩).2.pc == 0)) ∧
      MachAt w' mb lb (mstep ls l ⟨hd, it, h, (k + 6), lk, tr⟩).2 ∧ StoreAt w' sb g (mstep ls l ⟨hd, it, h, (k + 6), lk, tr⟩).1 (wrap64 (n + 1)) ∧ Upd [sb, g, mb] w w' := by
  obtain ⟨c0, c1, c2, c3, c4, c5, c6, fz⟩ := row7 hm
  simp only [nextV] at c4
  have f0 := fun (w : World) f b c => run_eql_func w (Try.underlying73) f b c
  have f1 := fun (w : World) => run_eql_nil w (Try.underlying73)
  go_enter Try.func18, Try.ntmps18
  go_wp2_with fail
  refine (popSwap_c sb g mb lb l n _ w hs hm hn hk).mono ?_
  rintro e w1 ⟨rfl, m1, s1, u1⟩
  obtain ⟨d0, d1, d2, d3, d4, d5, d6, fz1⟩ := row7 m1
  clear c0 c1 c2 c3 c4 c5 c6 fz
  cases hb : (mswapped l hd h) with
  | true =>
    simp only [hb, pcIf, cond_true, nextV] at d4
    go_wp2_with fail
    go_ret
    exact ⟨by simp [mstep, hb, pcIf], m1, s1, u1⟩
  | false =>
    simp only [hb, pcIf, cond_false, nextV] at d4
    go_wp2_with fail
    go_ret
    exact ⟨by simp [mstep, hb, pcIf], m1, s1, u1⟩

end Go.Proofs.Ytaciapjohakpgaa
