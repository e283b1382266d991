/- The machine of the reference of layer 9, step by step: it does what the program's does. Conditions: words are words; the list of words and that of links can be read. -/
import Derived.Test.YtaciapjohakpgaaAwake9
import Derived.Test.YtaciapjohakpgaaCellsH
import Derived.Test.YtaciapjohakpgaaRef6H
import Derived.RegionTactic
import Derived.ChangeAlike
import Derived.Deep.RegionHeld3
set_option linter.unusedVariables false
namespace Go.Proofs.Ytaciapjohakpgaa
open Go.ChangeShapes Go.WideShapes Go.ChangeAt Go.RowKit

def rpc : Nat → Int
  | 0 => 0 | 1 => 1 | 2 => 2 | 3 => 3 | 4 => 1 | 5 => 2 | _ => 3

def refV (la : Option Addr) (ln lc : Nat) (kind : Int) (m : Mac) : Value := .agg #[.int .i64 kind, .int .i64 (rpc m.pc), .int .i64 m.head, .slice la ln lc, .int .u32 m.item, .int .u64 m.h, .int .u32 m.link, .int .i64 m.tries]

theorem below2 (w : World) (o1 o2 : Obj) : Below w.heap.size w ((w.alloc o1).alloc o2) := ((Below.refl _ _).alloc (Nat.le_refl _) _).alloc (by simp) _
theorem below2d (w : World) (o1 o2 : Obj) : Below w.heap.size w ((w.alloc o1).alloc o2).drew := below_drewN (below2 w o1 o2) 1

theorem below_drew {n0 : Nat} {w0 w : World} (h : Below n0 w0 w) : Below n0 w0 w.drew := below_drewN h 1
set_option maxHeartbeats 600000 in
theorem rstep0 (mv : Value) (la : Option Addr) (ln lc : Nat) (k hd it h lk tr : Int) (w : World) :
    Calls Try.prog 26 #[mv, refV la ln lc k ⟨hd, it, h, 0, lk, tr⟩] w fun e w' => e = .returned (.tuple #[mv, refV la ln lc k ⟨hd, it, h, 0, lk, tr⟩]) ∧ Below w.heap.size w w' := by
  unfold refV rpc
  go_enter Try.func26, Try.ntmps26
  go_wp2_with fail
  go_region
  all_goals go_wp2_with fail
  all_goals (refine bodyPost_ret (v := .tuple #[mv, refV la ln lc k ⟨hd, it, h, 0, lk, tr⟩]) (by unfold refV rpc; simp [results, Try.results26, go_sem]) rfl ⟨rfl, ?_⟩; repeat (first | with_reducible exact below2 w _ _ | (with_reducible refine Below.setCell (B := w.heap.size) ?_ (by simp) _) | with_reducible refine below_drew ?_ | with_reducible refine below_drewN ?_ _))

set_option maxHeartbeats 600000 in
theorem rstep1 (la : Option Addr) (ln lc : Nat) (mv : Value) (hd it h lk tr : Int) (l : List Int) (w : World) {A : List Nat} (hsl : Sl w A .u64 mv l) (hw : Ws l) :
    Calls Try.prog 26 #[mv, refV la ln lc 1 ⟨hd, it, h, 1, lk, tr⟩] w fun e w' => e = .returned (.tuple #[mv, refV la ln lc 1 ⟨hd, it, mld l hd, 2, mld l hd % 4294967296, wrap64 (tr + 1)⟩]) ∧ Below w.heap.size w w' := by
  obtain ⟨x0, x1⟩ := ws_mld hw hd
  unfold refV rpc
  go_enter Try.func26, Try.ntmps26
  go_wp2_with fail
  refine (RLoad_c mv l _ _ (A := A) (sl_below hsl (below2 _ _ _))).mono ?_
  rintro e w1 ⟨rfl, hw⟩
  obtain rfl := hw.symm
  go_wp2_with fail
  refine (RLow_c _ x0 x1 _).mono ?_
  rintro e w1 ⟨rfl, dn, rfl⟩
  go_wp2_with fail
  go_region
  all_goals go_wp2_with fail
  all_goals (refine bodyPost_ret (v := .tuple #[mv, refV la ln lc 1 ⟨hd, it, mld l hd, 2, mld l hd % 4294967296, wrap64 (tr + 1)⟩]) (by unfold refV rpc; simp [results, Try.results26, go_sem]) rfl ⟨rfl, ?_⟩; repeat (first | with_reducible exact below2 w _ _ | (with_reducible refine Below.setCell (B := w.heap.size) ?_ (by simp) _) | with_reducible refine below_drew ?_ | with_reducible refine below_drewN ?_ _))

set_option maxHeartbeats 600000 in
theorem rstep4 (la : Option Addr) (ln lc : Nat) (mv : Value) (hd it h lk tr : Int) (l : List Int) (w : World) {A : List Nat} (hsl : Sl w A .u64 mv l) (hw : Ws l) :
    Calls Try.prog 26 #[mv, refV la ln lc 2 ⟨hd, it, h, 4, lk, tr⟩] w fun e w' => e = .returned (.tuple #[mv, refV la ln lc 2 ⟨hd, mld l hd % 4294967296, mld l hd, pcIf (mld l hd % 4294967296 == 0) 5, lk, wrap64 (tr + 1)⟩]) ∧ Below w.heap.size w w' := by
  obtain ⟨x0, x1⟩ := ws_mld hw hd
  unfold refV rpc
  cases hb : (mld l hd % 4294967296 == 0)
  all_goals
    go_enter Try.func26, Try.ntmps26
    go_wp2_with fail
    refine (RLoad_c mv l _ _ (A := A) (sl_below hsl (below2 _ _ _))).mono ?_
    rintro e w1 ⟨rfl, hw⟩
    obtain rfl := hw.symm
    go_wp2_with fail
    refine (RLow_c _ x0 x1 _).mono ?_
    rintro e w1 ⟨rfl, dn, rfl⟩
    go_wp2_with fail
    go_region
    all_goals go_wp2_with fail
  · (refine bodyPost_ret (v := .tuple #[mv, refV la ln lc 2 ⟨hd, mld l hd % 4294967296, mld l hd, 5, lk, wrap64 (tr + 1)⟩]) (by unfold refV rpc; simp [results, Try.results26, go_sem]) rfl ⟨rfl, ?_⟩; repeat (first | with_reducible exact below2 w _ _ | (with_reducible refine Below.setCell (B := w.heap.size) ?_ (by simp) _) | with_reducible refine below_drew ?_ | with_reducible refine below_drewN ?_ _))
  · (refine bodyPost_ret (v := .tuple #[mv, refV la ln lc 2 ⟨hd, mld l hd % 4294967296, mld l hd, 0, lk, wrap64 (tr + 1)⟩]) (by unfold refV rpc; simp [results, Try.results26, go_sem]) rfl ⟨rfl, ?_⟩; repeat (first | with_reducible exact below2 w _ _ | (with_reducible refine Below.setCell (B := w.heap.size) ?_ (by simp) _) | with_reducible refine below_drew ?_ | with_reducible refine below_drewN ?_ _))

theorem set_ne {w : World} {b0 b1 o p : Nat} {v : Value} (hne : b0 ≠ b1) (u : Value) (h : w.cell? ⟨b0, o, none⟩ = some v) : (w.setCell ⟨b1, p, none⟩ u).cell? ⟨b0, o, none⟩ = some v :=
  (World.cell?_of_block (w := w) (a := ⟨b0, o, none⟩) (Below.heap_setCell w ⟨b1, p, none⟩ u b0 hne)).trans h
theorem set8 {w : World} {b0 b1 o : Nat} {v : Value} (hne : b0 ≠ b1) (u0 u1 u2 u3 u4 u5 u6 u7 : Value) (h : w.cell? ⟨b0, o, none⟩ = some v) :
    ((((((((w.setCell ⟨b1, 0, none⟩ u0).setCell ⟨b1, 1, none⟩ u1).setCell ⟨b1, 2, none⟩ u2).setCell ⟨b1, 3, none⟩ u3).setCell ⟨b1, 4, none⟩ u4).setCell ⟨b1, 5, none⟩ u5).setCell ⟨b1, 6, none⟩ u6).setCell ⟨b1, 7, none⟩ u7).cell? ⟨b0, o, none⟩ = some v :=
  set_ne hne _ (set_ne hne _ (set_ne hne _ (set_ne hne _ (set_ne hne _ (set_ne hne _ (set_ne hne _ (set_ne hne _ h)))))))

def rawV (la : Option Addr) (ln lc : Nat) (kind pc hd it h lk tr : Int) : Value := .agg #[.int .i64 kind, .int .i64 pc, .int .i64 hd, .slice la ln lc, .int .u32 it, .int .u64 h, .int .u32 lk, .int .i64 tr]

theorem blk_old {w : World} {b : Nat} {o : Obj} (o2 : Obj) (h : w.heap[b]? = some o) : (w.alloc o2).heap[b]? = some o := (Upd.alloc (Upd.refl [] w) o2).blk h (by simp)

theorem upd_drew {S : List Nat} {a b : World} (h : Upd S a b) : Upd S a b.drew := h.drewN 1

def zeroV : Array Value := #[.int .i64 0, .int .i64 0, .int .i64 0, .slice none 0 0, .int .u32 0, .int .u64 0, .int .u32 0, .int .i64 0]

theorem mkW (w : World) (c1 c2 : Array Value) (T : TypeId) : ∃ W, Hid (W = (w.alloc (.cells c1 T)).alloc (.cells c2 T)) ∧ W.heap[w.heap.size]? = some (.cells c1 T (0, 0)) ∧ W.heap[w.heap.size + 1]? = some (.cells c2 T (0, 0)) ∧ Below w.heap.size w W := by
  refine ⟨_, Lib.hid rfl, blk_old _ (blk_new w _ 0), ?_, below2 w _ _⟩
  have := blk_new (w.alloc (.cells c1 T)) (.cells c2 T) 0
  simpa using this

set_option maxHeartbeats 1000000 in
theorem rturn {A : List Nat} (la : Option Addr) (ln lc : Nat) (mv : Value) (kind pc hd it h lk tr low : Int) (l : List Int) (w : World) (hsl : Sl w A .u64 mv l) (hA : ∀ x ∈ A, x < w.heap.size) (hl : l.length < 1000000000000) (k2 : 0 ≤ h) (k3 : h < 18446744073709551616) (l0 : 0 ≤ low) (l1 : low < 4294967296) :
    Calls Try.prog 39 #[mv, rawV la ln lc kind pc hd it h lk tr, .int .u32 low] w fun e w' => ∃ mv', e = .returned (.tuple #[mv', rawV la ln lc kind (bif mswapped l hd h then 0 else 1) hd it h lk tr]) ∧ Sl w' A .u64 mv' (mswap l hd h (wTurn h low)) ∧ Below w.heap.size w w' := by
  have ew : IntKind.u32.wrap (h / 4294967296 + 1) = (h / 4294967296 + 1) % 4294967296 := wrapu32 _
  have hp0 : 0 ≤ (h / 4294967296 + 1) % 4294967296 := by omega
  have hp1 : (h / 4294967296 + 1) % 4294967296 < 4294967296 := by omega
  obtain ⟨W, HW, K0, K1, bW⟩ := mkW w #[.int .i64 kind, .int .i64 pc, .int .i64 hd, .slice la ln lc, .int .u32 it, .int .u64 h, .int .u32 lk, .int .i64 tr] zeroV 56
  unfold zeroV at HW K1
  have hs := sl_upd (S := []) (A' := w.heap.size :: (w.heap.size + 1) :: A) hsl (Upd.of_below bW) (by simp) (by intro x hx; simp at hx; rcases hx with rfl | rfl | q <;> first | exact .inl q | (right; omega))
  have HS := Lib.hid (And.intro K0 K1)
  have zW := bW.size
  have zz := blk_lt K1
  have hA2 : ∀ x ∈ w.heap.size :: (w.heap.size + 1) :: A, x < W.heap.size := by
    intro x hx; simp at hx; rcases hx with rfl | rfl | q
    · omega
    · exact zz
    · exact Nat.lt_of_lt_of_le (hA x q) zW
  unfold rawV
  cases hb : mswapped l hd h
  all_goals
    go_enter Try.func39, Try.ntmps39
    clear K0 K1
    go_wp2_with fail
    rw [← HW.out]
    obtain ⟨c0, c1, c2, c3, c4, c5, c6, c7, fz⟩ := row8 (w := W.drew) HS.out.1
    go_region_held3 (fun w' => w'.cell? ⟨w.heap.size, 2, none⟩ = some (.int .i64 hd) ∧ w'.cell? ⟨w.heap.size, 5, none⟩ = some (.int .u64 h)) (first | (refine ⟨?_, ?_⟩ <;> assumption) | (simp; done)) (first | (go_at_call 45; refine (RHigh_c _ k2 k3 _).mono ?_; rintro e w4 ⟨rfl, dn, rfl⟩; have q2 : (W.drewN (1 + dn)).cell? ⟨w.heap.size, 2, none⟩ = some (.int .i64 hd) := c2; have q5 : (W.drewN (1 + dn)).cell? ⟨w.heap.size, 5, none⟩ = some (.int .u64 h) := c5) | (go_at_call 44; refine (RPair_c _ _ hp0 hp1 l0 l1 _).mono ?_; rintro e w4 ⟨rfl, dm, rfl⟩; have p2 : (W.drewN (1 + dn + dm)).cell? ⟨w.heap.size, 2, none⟩ = some (.int .i64 hd) := c2; have p5 : (W.drewN (1 + dn + dm)).cell? ⟨w.heap.size, 5, none⟩ = some (.int .u64 h) := c5) | (go_at_call 43; refine (RSwap_c mv l hd h _ (W.drewN (1 + dn + dm)) (A := w.heap.size :: (w.heap.size + 1) :: A) hA2 (sl_drewN hs _) hl).mono ?_; rintro e w3 ⟨mv', rfl, hv, b3⟩; have g2 := (b3.cell (p := ⟨w.heap.size, 2, none⟩) (by show w.heap.size < W.heap.size; omega)).trans p2; have g5 := (b3.cell (p := ⟨w.heap.size, 5, none⟩) (by show w.heap.size < W.heap.size; omega)).trans p5))
    have zW3 := b3.size
    have J0 := (b3.block w.heap.size (by show w.heap.size < W.heap.size; omega)).trans HS.out.1
    have J1 := (b3.block (w.heap.size + 1) (by show w.heap.size + 1 < W.heap.size; omega)).trans HS.out.2
    have b03 : Below w.heap.size w w3 := bW.trans ((below_drewN (Below.refl _ _) _).trans (b3.mono zW))
    clear c0 c1 c2 c3 c4 c5 c6 c7 fz q2 q5 p2 p5 g2 g5 b3
    obtain ⟨c0, c1, c2, c3, c4, c5, c6, c7, fz⟩ := row8 J0
    obtain ⟨d0, d1, d2, d3, d4, d5, d6, d7, fz2⟩ := row8 J1
    go_wp2_with fail
    go_region
    all_goals go_wp2_with fail
    refine bodyPost_ret (v := .tuple #[mv', rawV la ln lc kind _ hd it h lk tr]) (by unfold rawV; simp [results, Try.results39, go_sem, d0, d1, d2, d3, d4, d5, d6, d7]) rfl ⟨_, rfl, ?_, ?_⟩
    · refine sl_upd (S := [w.heap.size, w.heap.size + 1]) hv ?_ (fun x hx => .inl (by simp at hx ⊢; omega)) (fun x hx => .inl (by simp [hx]))
      repeat (first | with_reducible exact Upd.refl _ _ | (with_reducible refine Upd.setCell ?_ (by simp) _) | with_reducible refine upd_drew ?_ | with_reducible refine Upd.drewN ?_ _)
    · repeat (first | with_reducible exact b03 | (with_reducible refine Below.setCell (B := w.heap.size) ?_ (by simp) _) | with_reducible refine below_drew ?_ | with_reducible refine below_drewN ?_ _)

set_option maxHeartbeats 2000000 in
theorem rstep2 {A A2 : List Nat} (la : Option Addr) (lc : Nat) (mv : Value) (hd it h lk tr : Int) (l ls : List Int) (w : World) (hsl : Sl w A .u64 mv l) (hA : ∀ x ∈ A, x < w.heap.size) (hl : l.length < 1000000000000) (hL : Sl w A2 .i64 (.slice la ls.length lc) ls) (hll : ls.length < 1000000000000) (hw : Ws l) (hk : MacOk ⟨hd, it, h, 2, lk, tr⟩) :
    Calls Try.prog 26 #[mv, refV la ls.length lc 1 ⟨hd, it, h, 2, lk, tr⟩] w fun e w' => ∃ mv', e = .returned (.tuple #[mv', refV la ls.length lc 1 ⟨hd, it, h, 3, lk, tr⟩]) ∧ Sl w' A .u64 mv' (mput l (lkAt ls it) lk) ∧ Below w.heap.size w w' := by
  obtain ⟨k0, k1, k2, k3, k4, k5⟩ := hk
  dsimp only at k0 k1 k2 k3 k4 k5
  have hne8 : w.heap.size ≠ w.heap.size + 1 := by omega
  have e2 : IntKind.u64.wrap lk = lk := by rw [IntKind.wrap_u64]; omega
  obtain ⟨W, HW, K0, K1, bW⟩ := mkW w #[.int .i64 1, .int .i64 3, .int .i64 hd, .slice la ls.length lc, .int .u32 it, .int .u64 h, .int .u32 lk, .int .i64 tr] zeroV 56
  unfold zeroV at HW K1
  have hs := sl_upd (S := []) (A' := w.heap.size :: (w.heap.size + 1) :: A) hsl (Upd.of_below bW) (by simp) (by intro x hx; simp at hx; rcases hx with rfl | rfl | q <;> first | exact .inl q | (right; omega))
  have hs2 := sl_below hL bW
  have HS := Lib.hid (And.intro K0 K1)
  have zW := bW.size
  have zz := blk_lt K1
  have hA2 : ∀ x ∈ w.heap.size :: (w.heap.size + 1) :: A, x < W.heap.size := by
    intro x hx; simp at hx; rcases hx with rfl | rfl | q
    · omega
    · exact zz
    · exact Nat.lt_of_lt_of_le (hA x q) zW
  unfold refV rpc
  clear K0 K1
  go_enter Try.func26, Try.ntmps26
  go_wp2_with fail
  rw [← HW.out]
  obtain ⟨c0, c1, c2, c3, c4, c5, c6, c7, fz⟩ := row8 (w := W.drew) HS.out.1
  go_region_held3 (fun w' => w'.cell? ⟨w.heap.size, 0, none⟩ = some (.int .i64 1) ∧ w'.cell? ⟨w.heap.size, 1, none⟩ = some (.int .i64 3) ∧ w'.cell? ⟨w.heap.size, 2, none⟩ = some (.int .i64 hd) ∧ w'.cell? ⟨w.heap.size, 3, none⟩ = some (.slice la ls.length lc) ∧ w'.cell? ⟨w.heap.size, 4, none⟩ = some (.int .u32 it) ∧ w'.cell? ⟨w.heap.size, 5, none⟩ = some (.int .u64 h) ∧ w'.cell? ⟨w.heap.size, 6, none⟩ = some (.int .u32 lk) ∧ w'.cell? ⟨w.heap.size, 7, none⟩ = some (.int .i64 tr)) (first | (refine ⟨?_, ?_, ?_, ?_, ?_, ?_, ?_, ?_⟩ <;> (with_reducible assumption)) | (with_reducible exact ⟨set8 hne8 _ _ _ _ _ _ _ _ r0, set8 hne8 _ _ _ _ _ _ _ _ r1, set8 hne8 _ _ _ _ _ _ _ _ r2, set8 hne8 _ _ _ _ _ _ _ _ r3, set8 hne8 _ _ _ _ _ _ _ _ r4, set8 hne8 _ _ _ _ _ _ _ _ r5, set8 hne8 _ _ _ _ _ _ _ _ r6, set8 hne8 _ _ _ _ _ _ _ _ r7⟩)) (first | (go_at_call 33; refine (RAt_c (A := A2) _ _ ls _ _ (sl_drewN hs2 1) hll k0 k1).mono ?_; rintro e w4 ⟨rfl, b4⟩; have z4 := b4.size; obtain ⟨p0, p1, p2, p3, p4, p5, p6, p7, fp⟩ := row8 (w := w4) ((b4.block w.heap.size (by show w.heap.size < W.heap.size; omega)).trans HS.out.1)) | (go_at_call 30; refine (RPut_c mv l _ _ w4 (A := w.heap.size :: (w.heap.size + 1) :: A) (fun x hx => Nat.lt_of_lt_of_le (hA2 x hx) z4) (sl_below (w := W.drew) hs b4) hl).mono ?_; rintro e w3 ⟨mv', rfl, hv, b3⟩; have J0 := (b3.block w.heap.size (by change W.heap.size ≤ _ at z4; omega)).trans ((b4.block w.heap.size (by show w.heap.size < W.heap.size; omega)).trans HS.out.1); have J1 := (b3.block (w.heap.size + 1) (by change W.heap.size ≤ _ at z4; omega)).trans ((b4.block (w.heap.size + 1) (by show w.heap.size + 1 < W.heap.size; omega)).trans HS.out.2); obtain ⟨r0, r1, r2, r3, r4, r5, r6, r7, fr⟩ := row8 (w := w3) J0; obtain ⟨d0, d1, d2, d3, d4, d5, d6, d7, fd⟩ := row8 (w := w3) J1))
  have b03 : Below w.heap.size w w3 := bW.trans ((below_drewN (Below.refl _ _) 1).trans ((b4.mono zW).trans (b3.mono (by change W.heap.size ≤ _ at z4; omega))))
  clear c0 c1 c2 c3 c4 c5 c6 c7 fz p0 p1 p2 p3 p4 p5 p6 p7 fp
  go_wp2_with fail
  refine bodyPost_ret (v := .tuple #[mv', refV la ls.length lc 1 ⟨hd, it, h, 3, lk, tr⟩]) (by unfold refV rpc; simp [results, Try.results26, go_sem, d0, d1, d2, d3, d4, d5, d6, d7]) rfl ⟨_, rfl, ?_, ?_⟩
  · refine sl_upd (S := [w.heap.size, w.heap.size + 1]) hv ?_ (fun x hx => .inl (by simp at hx ⊢; omega)) (fun x hx => .inl (by simp [hx]))
    repeat (first | with_reducible exact Upd.refl _ _ | (with_reducible refine Upd.setCell ?_ (by simp) _) | with_reducible refine upd_drew ?_ | with_reducible refine Upd.drewN ?_ _)
  · repeat (first | with_reducible exact b03 | (with_reducible refine Below.setCell (B := w.heap.size) ?_ (by simp) _) | with_reducible refine below_drew ?_ | with_reducible refine below_drewN ?_ _)


set_option maxHeartbeats 2000000 in
theorem rstep5 {A A2 : List Nat} (la : Option Addr) (lc : Nat) (mv : Value) (hd it h lk tr : Int) (l ls : List Int) (w : World) (hsl : Sl w A .u64 mv l) (hA : ∀ x ∈ A, x < w.heap.size) (hl : l.length < 1000000000000) (hL : Sl w A2 .i64 (.slice la ls.length lc) ls) (hll : ls.length < 1000000000000) (hw : Ws l) (hk : MacOk ⟨hd, it, h, 5, lk, tr⟩) :
    Calls Try.prog 26 #[mv, refV la ls.length lc 2 ⟨hd, it, h, 5, lk, tr⟩] w fun e w' => ∃ mv', e = .returned (.tuple #[mv', refV la ls.length lc 2 ⟨hd, it, h, 6, mld l (lkAt ls it) % 4294967296, tr⟩]) ∧ Sl w' A .u64 mv' (l) ∧ Below w.heap.size w w' := by
  obtain ⟨k0, k1, k2, k3, k4, k5⟩ := hk
  dsimp only at k0 k1 k2 k3 k4 k5
  obtain ⟨x0, x1⟩ := ws_mld hw (lkAt ls it)
  obtain ⟨W, HW, K0, K1, bW⟩ := mkW w #[.int .i64 2, .int .i64 3, .int .i64 hd, .slice la ls.length lc, .int .u32 it, .int .u64 h, .int .u32 lk, .int .i64 tr] zeroV 56
  unfold zeroV at HW K1
  have hs := sl_upd (S := []) (A' := w.heap.size :: (w.heap.size + 1) :: A) hsl (Upd.of_below bW) (by simp) (by intro x hx; simp at hx; rcases hx with rfl | rfl | q <;> first | exact .inl q | (right; omega))
  have hs2 := sl_below hL bW
  have HS := Lib.hid (And.intro K0 K1)
  have zW := bW.size
  have zz := blk_lt K1
  have hA2 : ∀ x ∈ w.heap.size :: (w.heap.size + 1) :: A, x < W.heap.size := by
    intro x hx; simp at hx; rcases hx with rfl | rfl | q
    · omega
    · exact zz
    · exact Nat.lt_of_lt_of_le (hA x q) zW
  unfold refV rpc
  clear K0 K1
  go_enter Try.func26, Try.ntmps26
  go_wp2_with fail
  rw [← HW.out]
  refine (RAt_c (A := A2) _ _ ls _ W hs2 hll k0 k1).mono ?_
  rintro e w4 ⟨rfl, b4⟩
  have z4 := b4.size
  have J0 := (b4.block w.heap.size (by omega)).trans HS.out.1
  have J1 := (b4.block (w.heap.size + 1) (by omega)).trans HS.out.2
  have hs4 := sl_below hs b4
  have b04 : Below w.heap.size w w4 := bW.trans (b4.mono zW)
  obtain ⟨c0, c1, c2, c3, c4, c5, c6, c7, fz⟩ := row8 J0
  obtain ⟨d0, d1, d2, d3, d4, d5, d6, d7, fd⟩ := row8 J1
  clear J0 J1
  go_wp2_with fail
  refine (RLoad_c mv l _ _ hs4).mono ?_
  rintro e w5 ⟨rfl, hw⟩
  obtain rfl := hw.symm
  go_wp2_with fail
  refine (RLow_c _ x0 x1 _).mono ?_
  rintro e w5 ⟨rfl, dn, rfl⟩
  go_wp2_with fail
  go_region
  all_goals go_wp2_with fail
  refine bodyPost_ret (v := .tuple #[mv, refV la ls.length lc 2 ⟨hd, it, h, 6, mld l (lkAt ls it) % 4294967296, tr⟩]) (by unfold refV rpc; simp [results, Try.results26, go_sem, d0, d1, d2, d3, d4, d5, d6, d7]) rfl ⟨_, rfl, ?_, ?_⟩
  · refine sl_upd (S := [w.heap.size, w.heap.size + 1]) hs4 ?_ (fun x hx => .inl (by simp at hx ⊢; omega)) (fun x hx => .inl (by simp [hx]))
    repeat (first | with_reducible exact Upd.refl _ _ | (with_reducible refine Upd.setCell ?_ (by simp) _) | with_reducible refine upd_drew ?_ | with_reducible refine Upd.drewN ?_ _)
  · repeat (first | with_reducible exact b04 | (with_reducible refine Below.setCell (B := w.heap.size) ?_ (by simp) _) | with_reducible refine below_drew ?_ | with_reducible refine below_drewN ?_ _)

set_option maxHeartbeats 2000000 in
theorem rstep3 {A A2 : List Nat} (la : Option Addr) (lc : Nat) (mv : Value) (hd it h lk tr : Int) (l ls : List Int) (w : World) (hsl : Sl w A .u64 mv l) (hA : ∀ x ∈ A, x < w.heap.size) (hl : l.length < 1000000000000) (hL : Sl w A2 .i64 (.slice la ls.length lc) ls) (hll : ls.length < 1000000000000) (hw : Ws l) (hk : MacOk ⟨hd, it, h, 3, lk, tr⟩) :
    Calls Try.prog 26 #[mv, refV la ls.length lc 1 ⟨hd, it, h, 3, lk, tr⟩] w fun e w' => ∃ mv', e = .returned (.tuple #[mv', refV la ls.length lc 1 ⟨hd, it, h, pcIf (mswapped l hd h) 1, lk, tr⟩]) ∧ Sl w' A .u64 mv' (mswap l hd h (wTurn h it)) ∧ Below w.heap.size w w' := by
  obtain ⟨k0, k1, k2, k3, k4, k5⟩ := hk
  dsimp only at k0 k1 k2 k3 k4 k5
  obtain ⟨W, HW, K0, K1, bW⟩ := mkW w #[.int .i64 1, .int .i64 3, .int .i64 hd, .slice la ls.length lc, .int .u32 it, .int .u64 h, .int .u32 lk, .int .i64 tr] zeroV 56
  unfold zeroV at HW K1
  have hs := sl_upd (S := []) (A' := w.heap.size :: (w.heap.size + 1) :: A) hsl (Upd.of_below bW) (by simp) (by intro x hx; simp at hx; rcases hx with rfl | rfl | q <;> first | exact .inl q | (right; omega))
  have hs2 := sl_below hL bW
  have HS := Lib.hid (And.intro K0 K1)
  have zW := bW.size
  have zz := blk_lt K1
  have hA2 : ∀ x ∈ w.heap.size :: (w.heap.size + 1) :: A, x < W.heap.size := by
    intro x hx; simp at hx; rcases hx with rfl | rfl | q
    · omega
    · exact zz
    · exact Nat.lt_of_lt_of_le (hA x q) zW
  simp only [refV, show rpc 3 = 3 from rfl]
  clear K0 K1
  go_enter Try.func26, Try.ntmps26
  go_wp2_with fail
  rw [← HW.out]
  refine (rturn la ls.length lc mv 1 3 hd it h lk tr _ l W hs hA2 hl k2 k3 k0 k1).mono ?_
  rintro e w4 ⟨mv', rfl, hv, b4⟩
  have z4 := b4.size
  have J0 := (b4.block w.heap.size (by omega)).trans HS.out.1
  have J1 := (b4.block (w.heap.size + 1) (by omega)).trans HS.out.2
  have b04 : Below w.heap.size w w4 := bW.trans (b4.mono zW)
  obtain ⟨c0, c1, c2, c3, c4, c5, c6, c7, fz⟩ := row8 J0
  obtain ⟨d0, d1, d2, d3, d4, d5, d6, d7, fd⟩ := row8 J1
  clear J0 J1
  unfold rawV
  go_wp2_with fail
  have ep : rpc (pcIf (mswapped l hd h) 1) = (bif mswapped l hd h then 0 else 1) := by cases mswapped l hd h <;> rfl
  refine bodyPost_ret (v := .tuple #[mv', refV la ls.length lc 1 ⟨hd, it, h, pcIf (mswapped l hd h) 1, lk, tr⟩]) (by simp [refV, results, Try.results26, go_sem, ep, d0, d1, d2, d3, d4, d5, d6, d7]) rfl ⟨_, rfl, ?_, ?_⟩
  · refine sl_upd (S := [w.heap.size, w.heap.size + 1]) hv ?_ (fun x hx => .inl (by simp at hx ⊢; omega)) (fun x hx => .inl (by simp [hx]))
    repeat (first | with_reducible exact Upd.refl _ _ | (with_reducible refine Upd.setCell ?_ (by simp) _) | with_reducible refine upd_drew ?_ | with_reducible refine Upd.drewN ?_ _)
  · repeat (first | with_reducible exact b04 | (with_reducible refine Below.setCell (B := w.heap.size) ?_ (by simp) _) | with_reducible refine below_drew ?_ | with_reducible refine below_drewN ?_ _)

set_option maxHeartbeats 2000000 in
theorem rstep6 {A A2 : List Nat} (la : Option Addr) (lc : Nat) (mv : Value) (hd it h lk tr : Int) (k : Nat) (l ls : List Int) (w : World) (hsl : Sl w A .u64 mv l) (hA : ∀ x ∈ A, x < w.heap.size) (hl : l.length < 1000000000000) (hL : Sl w A2 .i64 (.slice la ls.length lc) ls) (hll : ls.length < 1000000000000) (hw : Ws l) (hk : MacOk ⟨hd, it, h, (k + 6), lk, tr⟩) :
    Calls Try.prog 26 #[mv, refV la ls.length lc 2 ⟨hd, it, h, (k + 6), lk, tr⟩] w fun e w' => ∃ mv', e = .returned (.tuple #[mv', refV la ls.length lc 2 ⟨hd, it, h, pcIf (mswapped l hd h) 4, lk, tr⟩]) ∧ Sl w' A .u64 mv' (mswap l hd h (wTurn h lk)) ∧ Below w.heap.size w w' := by
  obtain ⟨k0, k1, k2, k3, k4, k5⟩ := hk
  dsimp only at k0 k1 k2 k3 k4 k5
  obtain ⟨W, HW, K0, K1, bW⟩ := mkW w #[.int .i64 2, .int .i64 3, .int .i64 hd, .slice la ls.length lc, .int .u32 it, .int .u64 h, .int .u32 lk, .int .i64 tr] zeroV 56
  unfold zeroV at HW K1
  have hs := sl_upd (S := []) (A' := w.heap.size :: (w.heap.size + 1) :: A) hsl (Upd.of_below bW) (by simp) (by intro x hx; simp at hx; rcases hx with rfl | rfl | q <;> first | exact .inl q | (right; omega))
  have hs2 := sl_below hL bW
  have HS := Lib.hid (And.intro K0 K1)
  have zW := bW.size
  have zz := blk_lt K1
  have hA2 : ∀ x ∈ w.heap.size :: (w.heap.size + 1) :: A, x < W.heap.size := by
    intro x hx; simp at hx; rcases hx with rfl | rfl | q
    · omega
    · exact zz
    · exact Nat.lt_of_lt_of_le (hA x q) zW
  simp only [refV, show rpc (k + 6) = 3 from rfl]
  clear K0 K1
  go_enter Try.func26, Try.ntmps26
  go_wp2_with fail
  rw [← HW.out]
  refine (rturn la ls.length lc mv 2 3 hd it h lk tr _ l W hs hA2 hl k2 k3 k4 k5).mono ?_
  rintro e w4 ⟨mv', rfl, hv, b4⟩
  have z4 := b4.size
  have J0 := (b4.block w.heap.size (by omega)).trans HS.out.1
  have J1 := (b4.block (w.heap.size + 1) (by omega)).trans HS.out.2
  have b04 : Below w.heap.size w w4 := bW.trans (b4.mono zW)
  obtain ⟨c0, c1, c2, c3, c4, c5, c6, c7, fz⟩ := row8 J0
  obtain ⟨d0, d1, d2, d3, d4, d5, d6, d7, fd⟩ := row8 J1
  clear J0 J1
  unfold rawV
  go_wp2_with fail
  have ep : rpc (pcIf (mswapped l hd h) 4) = (bif mswapped l hd h then 0 else 1) := by cases mswapped l hd h <;> rfl
  refine bodyPost_ret (v := .tuple #[mv', refV la ls.length lc 2 ⟨hd, it, h, pcIf (mswapped l hd h) 4, lk, tr⟩]) (by simp [refV, results, Try.results26, go_sem, ep, d0, d1, d2, d3, d4, d5, d6, d7]) rfl ⟨_, rfl, ?_, ?_⟩
  · refine sl_upd (S := [w.heap.size, w.heap.size + 1]) hv ?_ (fun x hx => .inl (by simp at hx ⊢; omega)) (fun x hx => .inl (by simp [hx]))
    repeat (first | with_reducible exact Upd.refl _ _ | (with_reducible refine Upd.setCell ?_ (by simp) _) | with_reducible refine upd_drew ?_ | with_reducible refine Upd.drewN ?_ _)
  · repeat (first | with_reducible exact b04 | (with_reducible refine Below.setCell (B := w.heap.size) ?_ (by simp) _) | with_reducible refine below_drew ?_ | with_reducible refine below_drewN ?_ _)


/-- Of what kind a machine is. -/
def kindOk (kind : Int) (m : Mac) : Prop := match m.pc with | 0 => True | 1 => kind = 1 | 2 => kind = 1 | 3 => kind = 1 | _ => kind = 2

theorem kind_step (kind : Int) (ls l : List Int) (m : Mac) (h : kindOk kind m) : kindOk kind (mstep ls l m).2 := by
  obtain ⟨hd, it, hh, pc, lk, tr⟩ := m
  match pc, h with
  | 0, h => trivial
  | 1, h => exact h
  | 2, h => exact h
  | 3, h => show kindOk _ ⟨_, _, _, pcIf _ 1, _, _⟩; cases mswapped l hd hh <;> first | exact h | trivial
  | 4, h => show kindOk _ ⟨_, _, _, pcIf _ 5, _, _⟩; cases (mld l hd % 4294967296 == 0) <;> first | exact h | trivial
  | 5, h => exact h
  | k + 6, h => show kindOk _ ⟨_, _, _, pcIf _ 4, _, _⟩; cases mswapped l hd hh <;> first | exact h | trivial

theorem RStep_c {A A2 : List Nat} (la : Option Addr) (lc : Nat) (mv : Value) (kind : Int) (m : Mac) (l ls : List Int) (w : World) (hsl : Sl w A .u64 mv l) (hA : ∀ x ∈ A, x < w.heap.size) (hl : l.length < 1000000000000) (hL : Sl w A2 .i64 (.slice la ls.length lc) ls) (hll : ls.length < 1000000000000) (hw : Ws l) (hk : MacOk m) (hkd : kindOk kind m) :
    Calls Try.prog 26 #[mv, refV la ls.length lc kind m] w fun e w' => ∃ mv', e = .returned (.tuple #[mv', refV la ls.length lc kind (mstep ls l m).2]) ∧ Sl w' A .u64 mv' (mstep ls l m).1 ∧ Below w.heap.size w w' := by
  obtain ⟨hd, it, h, pc, lk, tr⟩ := m
  match pc, hk, hkd with
  | 0, hk, hkd => exact (rstep0 mv la _ lc kind hd it h lk tr w).mono fun _ _ ⟨he, b⟩ => ⟨mv, he, sl_below hsl b, b⟩
  | 1, hk, hkd => cases (show kind = 1 from hkd); exact (rstep1 la _ lc mv hd it h lk tr l w hsl hw).mono fun _ _ ⟨he, b⟩ => ⟨mv, he, sl_below hsl b, b⟩
  | 2, hk, hkd => cases (show kind = 1 from hkd); exact rstep2 la lc mv hd it h lk tr l ls w hsl hA hl hL hll hw hk
  | 3, hk, hkd => cases (show kind = 1 from hkd); exact rstep3 la lc mv hd it h lk tr l ls w hsl hA hl hL hll hw hk
  | 4, hk, hkd => cases (show kind = 2 from hkd); exact (rstep4 la _ lc mv hd it h lk tr l w hsl hw).mono fun _ _ ⟨he, b⟩ => ⟨mv, he, sl_below hsl b, b⟩
  | 5, hk, hkd => cases (show kind = 2 from hkd); exact rstep5 la lc mv hd it h lk tr l ls w hsl hA hl hL hll hw hk
  | k + 6, hk, hkd => cases (show kind = 2 from hkd); exact rstep6 la lc mv hd it h lk tr k l ls w hsl hA hl hL hll hw hk

end Go.Proofs.Ytaciapjohakpgaa
