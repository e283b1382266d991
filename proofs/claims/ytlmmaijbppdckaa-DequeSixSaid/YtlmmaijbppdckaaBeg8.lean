/- Layer 8's begun: a machine of a kind, and the model's. -/
import Derived.Test.YtlmmaijbppdckaaAw8
set_option linter.unusedVariables false
set_option linter.unusedSimpArgs false
namespace Go.Proofs.Ytlmmaijbppdckaa
open Go.ChangeShapes Go.WideShapes Go.ChangeAt Go.RowKit

theorem below_drew8 {n0 : Nat} {w0 w : World} (h : Below n0 w0 w) : Below n0 w0 w.drew := below_drewN h 1

theorem RPush8 (a b c d x : Int) (w : World) : Calls Try.prog 27 #[.agg #[.int .i64 a, .int .i64 b, .int .i64 c, .int .i64 d], .int .u64 x] w fun r w' => r = .returned (.agg #[.int .i64 1, .int .i64 1, .int .i64 a, .int .i64 b, .int .i64 c, .int .i64 d, .int .u64 0, .int .u64 0, .int .u64 x, .bool false, .int .i64 0]) ∧ Below w.heap.size w w' := by
  go_enter Try.func27, Try.ntmps27
  go_wp2_with fail
  refine bodyPost_ret (v := .agg #[.int .i64 1, .int .i64 1, .int .i64 a, .int .i64 b, .int .i64 c, .int .i64 d, .int .u64 0, .int .u64 0, .int .u64 x, .bool false, .int .i64 0]) (by simp [results, Try.results27, go_sem]) rfl ⟨rfl, ?_⟩
  repeat (first | with_reducible exact Below.refl _ _ | (with_reducible refine Below.setCell (B := w.heap.size) ?_ (by simp) _) | (with_reducible refine Below.alloc (B := w.heap.size) ?_ (by simp) _) | with_reducible refine below_drew8 ?_)

theorem RPop8 (a b c d : Int) (w : World) : Calls Try.prog 28 #[.agg #[.int .i64 a, .int .i64 b, .int .i64 c, .int .i64 d]] w fun r w' => r = .returned (.agg #[.int .i64 2, .int .i64 1, .int .i64 a, .int .i64 b, .int .i64 c, .int .i64 d, .int .u64 0, .int .u64 0, .int .u64 0, .bool false, .int .i64 0]) ∧ Below w.heap.size w w' := by
  go_enter Try.func28, Try.ntmps28
  go_wp2_with fail
  refine bodyPost_ret (v := .agg #[.int .i64 2, .int .i64 1, .int .i64 a, .int .i64 b, .int .i64 c, .int .i64 d, .int .u64 0, .int .u64 0, .int .u64 0, .bool false, .int .i64 0]) (by simp [results, Try.results28, go_sem]) rfl ⟨rfl, ?_⟩
  repeat (first | with_reducible exact Below.refl _ _ | (with_reducible refine Below.setCell (B := w.heap.size) ?_ (by simp) _) | (with_reducible refine Below.alloc (B := w.heap.size) ?_ (by simp) _) | with_reducible refine below_drew8 ?_)

theorem RSteal8 (a b c d : Int) (w : World) : Calls Try.prog 29 #[.agg #[.int .i64 a, .int .i64 b, .int .i64 c, .int .i64 d]] w fun r w' => r = .returned (.agg #[.int .i64 3, .int .i64 1, .int .i64 a, .int .i64 b, .int .i64 c, .int .i64 d, .int .u64 0, .int .u64 0, .int .u64 0, .bool false, .int .i64 0]) ∧ Below w.heap.size w w' := by
  go_enter Try.func29, Try.ntmps29
  go_wp2_with fail
  refine bodyPost_ret (v := .agg #[.int .i64 3, .int .i64 1, .int .i64 a, .int .i64 b, .int .i64 c, .int .i64 d, .int .u64 0, .int .u64 0, .int .u64 0, .bool false, .int .i64 0]) (by simp [results, Try.results29, go_sem]) rfl ⟨rfl, ?_⟩
  repeat (first | with_reducible exact Below.refl _ _ | (with_reducible refine Below.setCell (B := w.heap.size) ?_ (by simp) _) | (with_reducible refine Below.alloc (B := w.heap.size) ?_ (by simp) _) | with_reducible refine below_drew8 ?_)

theorem set_cellb8 {w : World} {b o a p : Nat} {u : Value} (v : Value) (h : w.cell? ⟨b, o, none⟩ = some u) (hne : b ≠ a) : (w.setCell ⟨a, p, none⟩ v).cell? ⟨b, o, none⟩ = some u := by
  rw [World.cell?_of_block (w := w) (a := ⟨b, o, none⟩) (Below.heap_setCell _ _ _ _ hne)]; exact h

def kindM (k x : Int) : Dq := if k % 3 = 0 then dqPush x else if k % 3 = 1 then dqPop else dqSteal

set_option maxRecDepth 100000 in
set_option maxHeartbeats 4000000 in
theorem begunPush (e : En) (k x : Int) (w : World) (k0 : 0 ≤ k) (hk : k % 3 = 0) :
    Calls Try.prog 17 #[.int .u8 k, .agg #[.int .i64 e.top, .int .i64 e.bottom, .int .i64 e.entry, .int .i64 e.room], .int .u64 x] w fun r w' => ∃ xb kd xw, r = .returned (.tuple #[.pointer (some ⟨xb, 0, none⟩), .agg #[.int .i64 kd, .int .i64 1, .int .i64 e.top, .int .i64 e.bottom, .int .i64 e.entry, .int .i64 e.room, .int .u64 0, .int .u64 0, .int .u64 xw, .bool false, .int .i64 0]]) ∧ ∃ ds, Has w w' ds ∧ ds[3]? = some (dqC _ xb e (dqPush x)) := by
  have rk : k.tmod 3 = k % 3 := Int.tmod_eq_emod_of_nonneg k0
  go_enter Try.func17, Try.ntmps17
  have G0 := (((Has.nil w).blkNew #[.int .i64 e.top, .int .i64 e.bottom, .int .i64 e.entry, .int .i64 e.room] 25).blkNew #[.int .i64 0, .int .i64 0, .int .i64 0, .int .i64 0, .int .i64 0, .int .i64 0, .int .u64 0, .int .u64 0, .int .u64 0, .bool false, .int .i64 0] 47).blkNew #[.int .i64 e.top, .int .i64 e.bottom, .int .i64 e.entry, .int .i64 e.room] 45
  have z1 : ∀ (w : World) o, (w.alloc o).heap.size = w.heap.size + 1 := fun w o => by simp
  simp only [z1] at G0
  clear z1
  go_wp2_with fail
  obtain ⟨W, HW, eW⟩ := G0.name
  rw [← eW.out]
  clear G0 eW
  obtain ⟨a0, a1, a2, a3, fa⟩ := row4 (HW.get 0 rfl)
  obtain ⟨c0, c1, c2, c3, fc⟩ := row4 (HW.get 2 rfl)
  go_region_held3 (fun w' => w'.cell? ⟨w.heap.size, 0, none⟩ = some (.int .i64 e.top) ∧ w'.cell? ⟨w.heap.size, 1, none⟩ = some (.int .i64 e.bottom) ∧ w'.cell? ⟨w.heap.size, 2, none⟩ = some (.int .i64 e.entry) ∧ w'.cell? ⟨w.heap.size, 3, none⟩ = some (.int .i64 e.room) ∧ w'.cell? ⟨w.heap.size + 1 + 1, 0, none⟩ = some (.int .i64 e.top) ∧ w'.cell? ⟨w.heap.size + 1 + 1, 1, none⟩ = some (.int .i64 e.bottom) ∧ w'.cell? ⟨w.heap.size + 1 + 1, 2, none⟩ = some (.int .i64 e.entry) ∧ w'.cell? ⟨w.heap.size + 1 + 1, 3, none⟩ = some (.int .i64 e.room)) (refine ⟨?_, ?_, ?_, ?_, ?_, ?_, ?_, ?_⟩ <;> (first | (with_reducible assumption) | (simp only [cell_drewN8, cell_drew8]; with_reducible assumption)  | ((try simp only [cell_drewN8, cell_drew8]); (repeat (with_reducible refine set_cellb8 _ ?_ (by omega))); (first | (with_reducible assumption) | (simp only [cell_drewN8, cell_drew8]; with_reducible assumption))))) (first | (go_at_call 11; refine (Push_h (HW.drewN _) e x).mono ?_; rintro r w1 ⟨xb, rfl, H1⟩; obtain ⟨a0, a1, a2, a3, fa⟩ := row4 (H1.get 0 rfl); obtain ⟨c0, c1, c2, c3, fc⟩ := row4 (H1.get 2 rfl)) | (go_at_call 27; refine (RPush8 _ _ _ _ _ _).mono ?_; rintro r w2 ⟨rfl, q2⟩; have H2 := H1.up q2; obtain ⟨a0, a1, a2, a3, fa⟩ := row4 (H2.get 0 rfl); obtain ⟨c0, c1, c2, c3, fc⟩ := row4 (H2.get 2 rfl); obtain ⟨r0, r1, r2, r3, r4, r5, r6, r7, r8, r9, r10, fr⟩ := row11 (H2.get 1 rfl)))
  obtain ⟨ds, hds⟩ : ∃ ds, ds = ([] ++ [blkC w.heap.size w.heap.size #[.int .i64 e.top, .int .i64 e.bottom, .int .i64 e.entry, .int .i64 e.room] 25] ++ [blkC w.heap.size (w.heap.size + 1) #[.int .i64 0, .int .i64 0, .int .i64 0, .int .i64 0, .int .i64 0, .int .i64 0, .int .u64 0, .int .u64 0, .int .u64 0, .bool false, .int .i64 0] 47] ++ [blkC w.heap.size (w.heap.size + 1 + 1) #[.int .i64 e.top, .int .i64 e.bottom, .int .i64 e.entry, .int .i64 e.room] 45] ++ [dqC w.heap.size xb e (dqPush x)]) := ⟨_, rfl⟩
  rw [← hds] at H2
  have h1 : ds[1]? = some (blkC _ (w.heap.size + 1) #[.int .i64 0, .int .i64 0, .int .i64 0, .int .i64 0, .int .i64 0, .int .i64 0, .int .u64 0, .int .u64 0, .int .u64 0, .bool false, .int .i64 0] 47) := by rw [hds]; rfl
  have h3 : ds[3]? = some (dqC _ xb e (dqPush x)) := by rw [hds]; rfl
  have hl := (List.getElem?_eq_some_iff.1 h1).1
  have K0 : Has w _ (ds.set 1 (blkC _ (w.heap.size + 1) #[.int .i64 1, .int .i64 0, .int .i64 0, .int .i64 0, .int .i64 0, .int .i64 0, .int .u64 0, .int .u64 0, .int .u64 0, .bool false, .int .i64 0] 47)) := H2.blkSet 1 h1 0 (.int .i64 1)
  have K1 : Has w _ (ds.set 1 (blkC _ (w.heap.size + 1) #[.int .i64 1, .int .i64 1, .int .i64 0, .int .i64 0, .int .i64 0, .int .i64 0, .int .u64 0, .int .u64 0, .int .u64 0, .bool false, .int .i64 0] 47)) := K0.more hl 1 (.int .i64 1)
  have K2 : Has w _ (ds.set 1 (blkC _ (w.heap.size + 1) #[.int .i64 1, .int .i64 1, .int .i64 e.top, .int .i64 0, .int .i64 0, .int .i64 0, .int .u64 0, .int .u64 0, .int .u64 0, .bool false, .int .i64 0] 47)) := K1.more hl 2 (.int .i64 e.top)
  have K3 : Has w _ (ds.set 1 (blkC _ (w.heap.size + 1) #[.int .i64 1, .int .i64 1, .int .i64 e.top, .int .i64 e.bottom, .int .i64 0, .int .i64 0, .int .u64 0, .int .u64 0, .int .u64 0, .bool false, .int .i64 0] 47)) := K2.more hl 3 (.int .i64 e.bottom)
  have K4 : Has w _ (ds.set 1 (blkC _ (w.heap.size + 1) #[.int .i64 1, .int .i64 1, .int .i64 e.top, .int .i64 e.bottom, .int .i64 e.entry, .int .i64 0, .int .u64 0, .int .u64 0, .int .u64 0, .bool false, .int .i64 0] 47)) := K3.more hl 4 (.int .i64 e.entry)
  have K5 : Has w _ (ds.set 1 (blkC _ (w.heap.size + 1) #[.int .i64 1, .int .i64 1, .int .i64 e.top, .int .i64 e.bottom, .int .i64 e.entry, .int .i64 e.room, .int .u64 0, .int .u64 0, .int .u64 0, .bool false, .int .i64 0] 47)) := K4.more hl 5 (.int .i64 e.room)
  have K6 : Has w _ (ds.set 1 (blkC _ (w.heap.size + 1) #[.int .i64 1, .int .i64 1, .int .i64 e.top, .int .i64 e.bottom, .int .i64 e.entry, .int .i64 e.room, .int .u64 0, .int .u64 0, .int .u64 0, .bool false, .int .i64 0] 47)) := K5.more hl 6 (.int .u64 0)
  have K7 : Has w _ (ds.set 1 (blkC _ (w.heap.size + 1) #[.int .i64 1, .int .i64 1, .int .i64 e.top, .int .i64 e.bottom, .int .i64 e.entry, .int .i64 e.room, .int .u64 0, .int .u64 0, .int .u64 0, .bool false, .int .i64 0] 47)) := K6.more hl 7 (.int .u64 0)
  have K8 : Has w _ (ds.set 1 (blkC _ (w.heap.size + 1) #[.int .i64 1, .int .i64 1, .int .i64 e.top, .int .i64 e.bottom, .int .i64 e.entry, .int .i64 e.room, .int .u64 0, .int .u64 0, .int .u64 x, .bool false, .int .i64 0] 47)) := K7.more hl 8 (.int .u64 x)
  have K9 : Has w _ (ds.set 1 (blkC _ (w.heap.size + 1) #[.int .i64 1, .int .i64 1, .int .i64 e.top, .int .i64 e.bottom, .int .i64 e.entry, .int .i64 e.room, .int .u64 0, .int .u64 0, .int .u64 x, .bool false, .int .i64 0] 47)) := K8.more hl 9 (.bool false)
  have K10 : Has w _ (ds.set 1 (blkC _ (w.heap.size + 1) #[.int .i64 1, .int .i64 1, .int .i64 e.top, .int .i64 e.bottom, .int .i64 e.entry, .int .i64 e.room, .int .u64 0, .int .u64 0, .int .u64 x, .bool false, .int .i64 0] 47)) := K9.more hl 10 (.int .i64 0)
  have H3 : Has w _ (ds.set 1 (blkC _ (w.heap.size + 1) #[.int .i64 1, .int .i64 1, .int .i64 e.top, .int .i64 e.bottom, .int .i64 e.entry, .int .i64 e.room, .int .u64 0, .int .u64 0, .int .u64 x, .bool false, .int .i64 0] 47)) := K10
  have h1' := lset_same8 h1 (blkC w.heap.size (w.heap.size + 1) #[.int .i64 1, .int .i64 1, .int .i64 e.top, .int .i64 e.bottom, .int .i64 e.entry, .int .i64 e.room, .int .u64 0, .int .u64 0, .int .u64 x, .bool false, .int .i64 0] 47)
  have h3' := set_get8 h3 (blkC w.heap.size (w.heap.size + 1) #[.int .i64 1, .int .i64 1, .int .i64 e.top, .int .i64 e.bottom, .int .i64 e.entry, .int .i64 e.room, .int .u64 0, .int .u64 0, .int .u64 x, .bool false, .int .i64 0] 47) (by decide : (1 : Nat) ≠ 3)
  have H31 := Lib.hid h1'
  have H33 := Lib.hid h3'
  clear K0 K1 K2 K3 K4 K5 K6 K7 K8 K9 K10 hds h1 h3 hl h1' h3'
  obtain ⟨V, HV, eV⟩ := H3.name
  rw [← eV.out]
  clear H3 H2 H1 eV a0 a1 a2 a3 fa c0 c1 c2 c3 fc r0 r1 r2 r3 r4 r5 r6 r7 r8 r9 r10 fr
  obtain ⟨r0, r1, r2, r3, r4, r5, r6, r7, r8, r9, r10, fr⟩ := row11 (HV.get 1 H31.out)
  go_wp2_with fail
  refine bodyPost_ret (v := .tuple #[.pointer (some ⟨xb, 0, none⟩), .agg #[.int .i64 1, .int .i64 1, .int .i64 e.top, .int .i64 e.bottom, .int .i64 e.entry, .int .i64 e.room, .int .u64 0, .int .u64 0, .int .u64 x, .bool false, .int .i64 0]]) (by simp [results, Try.results17, go_sem, r0, r1, r2, r3, r4, r5, r6, r7, r8, r9, r10]) rfl ⟨xb, _, _, rfl, _, HV, H33.out⟩

set_option maxRecDepth 100000 in
set_option maxHeartbeats 4000000 in
theorem begunPop (e : En) (k x : Int) (w : World) (k0 : 0 ≤ k) (hk : k % 3 = 1) :
    Calls Try.prog 17 #[.int .u8 k, .agg #[.int .i64 e.top, .int .i64 e.bottom, .int .i64 e.entry, .int .i64 e.room], .int .u64 x] w fun r w' => ∃ xb kd xw, r = .returned (.tuple #[.pointer (some ⟨xb, 0, none⟩), .agg #[.int .i64 kd, .int .i64 1, .int .i64 e.top, .int .i64 e.bottom, .int .i64 e.entry, .int .i64 e.room, .int .u64 0, .int .u64 0, .int .u64 xw, .bool false, .int .i64 0]]) ∧ ∃ ds, Has w w' ds ∧ ds[3]? = some (dqC _ xb e dqPop) := by
  have rk : k.tmod 3 = k % 3 := Int.tmod_eq_emod_of_nonneg k0
  go_enter Try.func17, Try.ntmps17
  have G0 := (((Has.nil w).blkNew #[.int .i64 e.top, .int .i64 e.bottom, .int .i64 e.entry, .int .i64 e.room] 25).blkNew #[.int .i64 0, .int .i64 0, .int .i64 0, .int .i64 0, .int .i64 0, .int .i64 0, .int .u64 0, .int .u64 0, .int .u64 0, .bool false, .int .i64 0] 47).blkNew #[.int .i64 e.top, .int .i64 e.bottom, .int .i64 e.entry, .int .i64 e.room] 45
  have z1 : ∀ (w : World) o, (w.alloc o).heap.size = w.heap.size + 1 := fun w o => by simp
  simp only [z1] at G0
  clear z1
  go_wp2_with fail
  obtain ⟨W, HW, eW⟩ := G0.name
  rw [← eW.out]
  clear G0 eW
  obtain ⟨a0, a1, a2, a3, fa⟩ := row4 (HW.get 0 rfl)
  obtain ⟨c0, c1, c2, c3, fc⟩ := row4 (HW.get 2 rfl)
  go_region_held3 (fun w' => w'.cell? ⟨w.heap.size, 0, none⟩ = some (.int .i64 e.top) ∧ w'.cell? ⟨w.heap.size, 1, none⟩ = some (.int .i64 e.bottom) ∧ w'.cell? ⟨w.heap.size, 2, none⟩ = some (.int .i64 e.entry) ∧ w'.cell? ⟨w.heap.size, 3, none⟩ = some (.int .i64 e.room) ∧ w'.cell? ⟨w.heap.size + 1 + 1, 0, none⟩ = some (.int .i64 e.top) ∧ w'.cell? ⟨w.heap.size + 1 + 1, 1, none⟩ = some (.int .i64 e.bottom) ∧ w'.cell? ⟨w.heap.size + 1 + 1, 2, none⟩ = some (.int .i64 e.entry) ∧ w'.cell? ⟨w.heap.size + 1 + 1, 3, none⟩ = some (.int .i64 e.room)) (refine ⟨?_, ?_, ?_, ?_, ?_, ?_, ?_, ?_⟩ <;> (first | (with_reducible assumption) | (simp only [cell_drewN8, cell_drew8]; with_reducible assumption)  | ((try simp only [cell_drewN8, cell_drew8]); (repeat (with_reducible refine set_cellb8 _ ?_ (by omega))); (first | (with_reducible assumption) | (simp only [cell_drewN8, cell_drew8]; with_reducible assumption))))) (first | (go_at_call 12; refine (Pop_h (HW.drewN _) e).mono ?_; rintro r w1 ⟨xb, rfl, H1⟩; obtain ⟨a0, a1, a2, a3, fa⟩ := row4 (H1.get 0 rfl); obtain ⟨c0, c1, c2, c3, fc⟩ := row4 (H1.get 2 rfl)) | (go_at_call 28; refine (RPop8 _ _ _ _ _).mono ?_; rintro r w2 ⟨rfl, q2⟩; have H2 := H1.up q2; obtain ⟨a0, a1, a2, a3, fa⟩ := row4 (H2.get 0 rfl); obtain ⟨c0, c1, c2, c3, fc⟩ := row4 (H2.get 2 rfl); obtain ⟨r0, r1, r2, r3, r4, r5, r6, r7, r8, r9, r10, fr⟩ := row11 (H2.get 1 rfl)))
  obtain ⟨ds, hds⟩ : ∃ ds, ds = ([] ++ [blkC w.heap.size w.heap.size #[.int .i64 e.top, .int .i64 e.bottom, .int .i64 e.entry, .int .i64 e.room] 25] ++ [blkC w.heap.size (w.heap.size + 1) #[.int .i64 0, .int .i64 0, .int .i64 0, .int .i64 0, .int .i64 0, .int .i64 0, .int .u64 0, .int .u64 0, .int .u64 0, .bool false, .int .i64 0] 47] ++ [blkC w.heap.size (w.heap.size + 1 + 1) #[.int .i64 e.top, .int .i64 e.bottom, .int .i64 e.entry, .int .i64 e.room] 45] ++ [dqC w.heap.size xb e dqPop]) := ⟨_, rfl⟩
  rw [← hds] at H2
  have h1 : ds[1]? = some (blkC _ (w.heap.size + 1) #[.int .i64 0, .int .i64 0, .int .i64 0, .int .i64 0, .int .i64 0, .int .i64 0, .int .u64 0, .int .u64 0, .int .u64 0, .bool false, .int .i64 0] 47) := by rw [hds]; rfl
  have h3 : ds[3]? = some (dqC _ xb e dqPop) := by rw [hds]; rfl
  have hl := (List.getElem?_eq_some_iff.1 h1).1
  have K0 : Has w _ (ds.set 1 (blkC _ (w.heap.size + 1) #[.int .i64 2, .int .i64 0, .int .i64 0, .int .i64 0, .int .i64 0, .int .i64 0, .int .u64 0, .int .u64 0, .int .u64 0, .bool false, .int .i64 0] 47)) := H2.blkSet 1 h1 0 (.int .i64 2)
  have K1 : Has w _ (ds.set 1 (blkC _ (w.heap.size + 1) #[.int .i64 2, .int .i64 1, .int .i64 0, .int .i64 0, .int .i64 0, .int .i64 0, .int .u64 0, .int .u64 0, .int .u64 0, .bool false, .int .i64 0] 47)) := K0.more hl 1 (.int .i64 1)
  have K2 : Has w _ (ds.set 1 (blkC _ (w.heap.size + 1) #[.int .i64 2, .int .i64 1, .int .i64 e.top, .int .i64 0, .int .i64 0, .int .i64 0, .int .u64 0, .int .u64 0, .int .u64 0, .bool false, .int .i64 0] 47)) := K1.more hl 2 (.int .i64 e.top)
  have K3 : Has w _ (ds.set 1 (blkC _ (w.heap.size + 1) #[.int .i64 2, .int .i64 1, .int .i64 e.top, .int .i64 e.bottom, .int .i64 0, .int .i64 0, .int .u64 0, .int .u64 0, .int .u64 0, .bool false, .int .i64 0] 47)) := K2.more hl 3 (.int .i64 e.bottom)
  have K4 : Has w _ (ds.set 1 (blkC _ (w.heap.size + 1) #[.int .i64 2, .int .i64 1, .int .i64 e.top, .int .i64 e.bottom, .int .i64 e.entry, .int .i64 0, .int .u64 0, .int .u64 0, .int .u64 0, .bool false, .int .i64 0] 47)) := K3.more hl 4 (.int .i64 e.entry)
  have K5 : Has w _ (ds.set 1 (blkC _ (w.heap.size + 1) #[.int .i64 2, .int .i64 1, .int .i64 e.top, .int .i64 e.bottom, .int .i64 e.entry, .int .i64 e.room, .int .u64 0, .int .u64 0, .int .u64 0, .bool false, .int .i64 0] 47)) := K4.more hl 5 (.int .i64 e.room)
  have K6 : Has w _ (ds.set 1 (blkC _ (w.heap.size + 1) #[.int .i64 2, .int .i64 1, .int .i64 e.top, .int .i64 e.bottom, .int .i64 e.entry, .int .i64 e.room, .int .u64 0, .int .u64 0, .int .u64 0, .bool false, .int .i64 0] 47)) := K5.more hl 6 (.int .u64 0)
  have K7 : Has w _ (ds.set 1 (blkC _ (w.heap.size + 1) #[.int .i64 2, .int .i64 1, .int .i64 e.top, .int .i64 e.bottom, .int .i64 e.entry, .int .i64 e.room, .int .u64 0, .int .u64 0, .int .u64 0, .bool false, .int .i64 0] 47)) := K6.more hl 7 (.int .u64 0)
  have K8 : Has w _ (ds.set 1 (blkC _ (w.heap.size + 1) #[.int .i64 2, .int .i64 1, .int .i64 e.top, .int .i64 e.bottom, .int .i64 e.entry, .int .i64 e.room, .int .u64 0, .int .u64 0, .int .u64 0, .bool false, .int .i64 0] 47)) := K7.more hl 8 (.int .u64 0)
  have K9 : Has w _ (ds.set 1 (blkC _ (w.heap.size + 1) #[.int .i64 2, .int .i64 1, .int .i64 e.top, .int .i64 e.bottom, .int .i64 e.entry, .int .i64 e.room, .int .u64 0, .int .u64 0, .int .u64 0, .bool false, .int .i64 0] 47)) := K8.more hl 9 (.bool false)
  have K10 : Has w _ (ds.set 1 (blkC _ (w.heap.size + 1) #[.int .i64 2, .int .i64 1, .int .i64 e.top, .int .i64 e.bottom, .int .i64 e.entry, .int .i64 e.room, .int .u64 0, .int .u64 0, .int .u64 0, .bool false, .int .i64 0] 47)) := K9.more hl 10 (.int .i64 0)
  have H3 : Has w _ (ds.set 1 (blkC _ (w.heap.size + 1) #[.int .i64 2, .int .i64 1, .int .i64 e.top, .int .i64 e.bottom, .int .i64 e.entry, .int .i64 e.room, .int .u64 0, .int .u64 0, .int .u64 0, .bool false, .int .i64 0] 47)) := K10
  have h1' := lset_same8 h1 (blkC w.heap.size (w.heap.size + 1) #[.int .i64 2, .int .i64 1, .int .i64 e.top, .int .i64 e.bottom, .int .i64 e.entry, .int .i64 e.room, .int .u64 0, .int .u64 0, .int .u64 0, .bool false, .int .i64 0] 47)
  have h3' := set_get8 h3 (blkC w.heap.size (w.heap.size + 1) #[.int .i64 2, .int .i64 1, .int .i64 e.top, .int .i64 e.bottom, .int .i64 e.entry, .int .i64 e.room, .int .u64 0, .int .u64 0, .int .u64 0, .bool false, .int .i64 0] 47) (by decide : (1 : Nat) ≠ 3)
  have H31 := Lib.hid h1'
  have H33 := Lib.hid h3'
  clear K0 K1 K2 K3 K4 K5 K6 K7 K8 K9 K10 hds h1 h3 hl h1' h3'
  obtain ⟨V, HV, eV⟩ := H3.name
  rw [← eV.out]
  clear H3 H2 H1 eV a0 a1 a2 a3 fa c0 c1 c2 c3 fc r0 r1 r2 r3 r4 r5 r6 r7 r8 r9 r10 fr
  obtain ⟨r0, r1, r2, r3, r4, r5, r6, r7, r8, r9, r10, fr⟩ := row11 (HV.get 1 H31.out)
  go_wp2_with fail
  refine bodyPost_ret (v := .tuple #[.pointer (some ⟨xb, 0, none⟩), .agg #[.int .i64 2, .int .i64 1, .int .i64 e.top, .int .i64 e.bottom, .int .i64 e.entry, .int .i64 e.room, .int .u64 0, .int .u64 0, .int .u64 0, .bool false, .int .i64 0]]) (by simp [results, Try.results17, go_sem, r0, r1, r2, r3, r4, r5, r6, r7, r8, r9, r10]) rfl ⟨xb, _, _, rfl, _, HV, H33.out⟩

set_option maxRecDepth 100000 in
set_option maxHeartbeats 4000000 in
theorem begunSteal (e : En) (k x : Int) (w : World) (k0 : 0 ≤ k) (hk : k % 3 = 2) :
    Calls Try.prog 17 #[.int .u8 k, .agg #[.int .i64 e.top, .int .i64 e.bottom, .int .i64 e.entry, .int .i64 e.room], .int .u64 x] w fun r w' => ∃ xb kd xw, r = .returned (.tuple #[.pointer (some ⟨xb, 0, none⟩), .agg #[.int .i64 kd, .int .i64 1, .int .i64 e.top, .int .i64 e.bottom, .int .i64 e.entry, .int .i64 e.room, .int .u64 0, .int .u64 0, .int .u64 xw, .bool false, .int .i64 0]]) ∧ ∃ ds, Has w w' ds ∧ ds[3]? = some (dqC _ xb e dqSteal) := by
  have rk : k.tmod 3 = k % 3 := Int.tmod_eq_emod_of_nonneg k0
  go_enter Try.func17, Try.ntmps17
  have G0 := (((Has.nil w).blkNew #[.int .i64 e.top, .int .i64 e.bottom, .int .i64 e.entry, .int .i64 e.room] 25).blkNew #[.int .i64 0, .int .i64 0, .int .i64 0, .int .i64 0, .int .i64 0, .int .i64 0, .int .u64 0, .int .u64 0, .int .u64 0, .bool false, .int .i64 0] 47).blkNew #[.int .i64 e.top, .int .i64 e.bottom, .int .i64 e.entry, .int .i64 e.room] 45
  have z1 : ∀ (w : World) o, (w.alloc o).heap.size = w.heap.size + 1 := fun w o => by simp
  simp only [z1] at G0
  clear z1
  go_wp2_with fail
  obtain ⟨W, HW, eW⟩ := G0.name
  rw [← eW.out]
  clear G0 eW
  obtain ⟨a0, a1, a2, a3, fa⟩ := row4 (HW.get 0 rfl)
  obtain ⟨c0, c1, c2, c3, fc⟩ := row4 (HW.get 2 rfl)
  go_region_held3 (fun w' => w'.cell? ⟨w.heap.size, 0, none⟩ = some (.int .i64 e.top) ∧ w'.cell? ⟨w.heap.size, 1, none⟩ = some (.int .i64 e.bottom) ∧ w'.cell? ⟨w.heap.size, 2, none⟩ = some (.int .i64 e.entry) ∧ w'.cell? ⟨w.heap.size, 3, none⟩ = some (.int .i64 e.room) ∧ w'.cell? ⟨w.heap.size + 1 + 1, 0, none⟩ = some (.int .i64 e.top) ∧ w'.cell? ⟨w.heap.size + 1 + 1, 1, none⟩ = some (.int .i64 e.bottom) ∧ w'.cell? ⟨w.heap.size + 1 + 1, 2, none⟩ = some (.int .i64 e.entry) ∧ w'.cell? ⟨w.heap.size + 1 + 1, 3, none⟩ = some (.int .i64 e.room)) (refine ⟨?_, ?_, ?_, ?_, ?_, ?_, ?_, ?_⟩ <;> (first | (with_reducible assumption) | (simp only [cell_drewN8, cell_drew8]; with_reducible assumption)  | ((try simp only [cell_drewN8, cell_drew8]); (repeat (with_reducible refine set_cellb8 _ ?_ (by omega))); (first | (with_reducible assumption) | (simp only [cell_drewN8, cell_drew8]; with_reducible assumption))))) (first | (go_at_call 13; refine (Steal_h (HW.drewN _) e).mono ?_; rintro r w1 ⟨xb, rfl, H1⟩; obtain ⟨a0, a1, a2, a3, fa⟩ := row4 (H1.get 0 rfl); obtain ⟨c0, c1, c2, c3, fc⟩ := row4 (H1.get 2 rfl)) | (go_at_call 29; refine (RSteal8 _ _ _ _ _).mono ?_; rintro r w2 ⟨rfl, q2⟩; have H2 := H1.up q2; obtain ⟨a0, a1, a2, a3, fa⟩ := row4 (H2.get 0 rfl); obtain ⟨c0, c1, c2, c3, fc⟩ := row4 (H2.get 2 rfl); obtain ⟨r0, r1, r2, r3, r4, r5, r6, r7, r8, r9, r10, fr⟩ := row11 (H2.get 1 rfl)))
  obtain ⟨ds, hds⟩ : ∃ ds, ds = ([] ++ [blkC w.heap.size w.heap.size #[.int .i64 e.top, .int .i64 e.bottom, .int .i64 e.entry, .int .i64 e.room] 25] ++ [blkC w.heap.size (w.heap.size + 1) #[.int .i64 0, .int .i64 0, .int .i64 0, .int .i64 0, .int .i64 0, .int .i64 0, .int .u64 0, .int .u64 0, .int .u64 0, .bool false, .int .i64 0] 47] ++ [blkC w.heap.size (w.heap.size + 1 + 1) #[.int .i64 e.top, .int .i64 e.bottom, .int .i64 e.entry, .int .i64 e.room] 45] ++ [dqC w.heap.size xb e dqSteal]) := ⟨_, rfl⟩
  rw [← hds] at H2
  have h1 : ds[1]? = some (blkC _ (w.heap.size + 1) #[.int .i64 0, .int .i64 0, .int .i64 0, .int .i64 0, .int .i64 0, .int .i64 0, .int .u64 0, .int .u64 0, .int .u64 0, .bool false, .int .i64 0] 47) := by rw [hds]; rfl
  have h3 : ds[3]? = some (dqC _ xb e dqSteal) := by rw [hds]; rfl
  have hl := (List.getElem?_eq_some_iff.1 h1).1
  have K0 : Has w _ (ds.set 1 (blkC _ (w.heap.size + 1) #[.int .i64 3, .int .i64 0, .int .i64 0, .int .i64 0, .int .i64 0, .int .i64 0, .int .u64 0, .int .u64 0, .int .u64 0, .bool false, .int .i64 0] 47)) := H2.blkSet 1 h1 0 (.int .i64 3)
  have K1 : Has w _ (ds.set 1 (blkC _ (w.heap.size + 1) #[.int .i64 3, .int .i64 1, .int .i64 0, .int .i64 0, .int .i64 0, .int .i64 0, .int .u64 0, .int .u64 0, .int .u64 0, .bool false, .int .i64 0] 47)) := K0.more hl 1 (.int .i64 1)
  have K2 : Has w _ (ds.set 1 (blkC _ (w.heap.size + 1) #[.int .i64 3, .int .i64 1, .int .i64 e.top, .int .i64 0, .int .i64 0, .int .i64 0, .int .u64 0, .int .u64 0, .int .u64 0, .bool false, .int .i64 0] 47)) := K1.more hl 2 (.int .i64 e.top)
  have K3 : Has w _ (ds.set 1 (blkC _ (w.heap.size + 1) #[.int .i64 3, .int .i64 1, .int .i64 e.top, .int .i64 e.bottom, .int .i64 0, .int .i64 0, .int .u64 0, .int .u64 0, .int .u64 0, .bool false, .int .i64 0] 47)) := K2.more hl 3 (.int .i64 e.bottom)
  have K4 : Has w _ (ds.set 1 (blkC _ (w.heap.size + 1) #[.int .i64 3, .int .i64 1, .int .i64 e.top, .int .i64 e.bottom, .int .i64 e.entry, .int .i64 0, .int .u64 0, .int .u64 0, .int .u64 0, .bool false, .int .i64 0] 47)) := K3.more hl 4 (.int .i64 e.entry)
  have K5 : Has w _ (ds.set 1 (blkC _ (w.heap.size + 1) #[.int .i64 3, .int .i64 1, .int .i64 e.top, .int .i64 e.bottom, .int .i64 e.entry, .int .i64 e.room, .int .u64 0, .int .u64 0, .int .u64 0, .bool false, .int .i64 0] 47)) := K4.more hl 5 (.int .i64 e.room)
  have K6 : Has w _ (ds.set 1 (blkC _ (w.heap.size + 1) #[.int .i64 3, .int .i64 1, .int .i64 e.top, .int .i64 e.bottom, .int .i64 e.entry, .int .i64 e.room, .int .u64 0, .int .u64 0, .int .u64 0, .bool false, .int .i64 0] 47)) := K5.more hl 6 (.int .u64 0)
  have K7 : Has w _ (ds.set 1 (blkC _ (w.heap.size + 1) #[.int .i64 3, .int .i64 1, .int .i64 e.top, .int .i64 e.bottom, .int .i64 e.entry, .int .i64 e.room, .int .u64 0, .int .u64 0, .int .u64 0, .bool false, .int .i64 0] 47)) := K6.more hl 7 (.int .u64 0)
  have K8 : Has w _ (ds.set 1 (blkC _ (w.heap.size + 1) #[.int .i64 3, .int .i64 1, .int .i64 e.top, .int .i64 e.bottom, .int .i64 e.entry, .int .i64 e.room, .int .u64 0, .int .u64 0, .int .u64 0, .bool false, .int .i64 0] 47)) := K7.more hl 8 (.int .u64 0)
  have K9 : Has w _ (ds.set 1 (blkC _ (w.heap.size + 1) #[.int .i64 3, .int .i64 1, .int .i64 e.top, .int .i64 e.bottom, .int .i64 e.entry, .int .i64 e.room, .int .u64 0, .int .u64 0, .int .u64 0, .bool false, .int .i64 0] 47)) := K8.more hl 9 (.bool false)
  have K10 : Has w _ (ds.set 1 (blkC _ (w.heap.size + 1) #[.int .i64 3, .int .i64 1, .int .i64 e.top, .int .i64 e.bottom, .int .i64 e.entry, .int .i64 e.room, .int .u64 0, .int .u64 0, .int .u64 0, .bool false, .int .i64 0] 47)) := K9.more hl 10 (.int .i64 0)
  have H3 : Has w _ (ds.set 1 (blkC _ (w.heap.size + 1) #[.int .i64 3, .int .i64 1, .int .i64 e.top, .int .i64 e.bottom, .int .i64 e.entry, .int .i64 e.room, .int .u64 0, .int .u64 0, .int .u64 0, .bool false, .int .i64 0] 47)) := K10
  have h1' := lset_same8 h1 (blkC w.heap.size (w.heap.size + 1) #[.int .i64 3, .int .i64 1, .int .i64 e.top, .int .i64 e.bottom, .int .i64 e.entry, .int .i64 e.room, .int .u64 0, .int .u64 0, .int .u64 0, .bool false, .int .i64 0] 47)
  have h3' := set_get8 h3 (blkC w.heap.size (w.heap.size + 1) #[.int .i64 3, .int .i64 1, .int .i64 e.top, .int .i64 e.bottom, .int .i64 e.entry, .int .i64 e.room, .int .u64 0, .int .u64 0, .int .u64 0, .bool false, .int .i64 0] 47) (by decide : (1 : Nat) ≠ 3)
  have H31 := Lib.hid h1'
  have H33 := Lib.hid h3'
  clear K0 K1 K2 K3 K4 K5 K6 K7 K8 K9 K10 hds h1 h3 hl h1' h3'
  obtain ⟨V, HV, eV⟩ := H3.name
  rw [← eV.out]
  clear H3 H2 H1 eV a0 a1 a2 a3 fa c0 c1 c2 c3 fc r0 r1 r2 r3 r4 r5 r6 r7 r8 r9 r10 fr
  obtain ⟨r0, r1, r2, r3, r4, r5, r6, r7, r8, r9, r10, fr⟩ := row11 (HV.get 1 H31.out)
  go_wp2_with fail
  refine bodyPost_ret (v := .tuple #[.pointer (some ⟨xb, 0, none⟩), .agg #[.int .i64 3, .int .i64 1, .int .i64 e.top, .int .i64 e.bottom, .int .i64 e.entry, .int .i64 e.room, .int .u64 0, .int .u64 0, .int .u64 0, .bool false, .int .i64 0]]) (by simp [results, Try.results17, go_sem, r0, r1, r2, r3, r4, r5, r6, r7, r8, r9, r10]) rfl ⟨xb, _, _, rfl, _, HV, H33.out⟩

theorem Has.joinDq {w0 w w' : World} {cs : List (Chunk w0.heap.size)} {ds : List (Chunk w.heap.size)} (H : Has w0 w cs) (G : Has w w' ds) (i : Nat) {xb : Nat} {e : En} {m : Dq} (hi : ds[i]? = some (dqC _ xb e m)) (hm : (m.st == 1 || m.st == 5 || m.st == 11) = true) : Has w0 w' (cs ++ [dqC _ xb e m]) := by
  have e0 : ∀ n0, dqC n0 xb e m = iniC n0 xb e m := fun n0 => by unfold dqC; rw [hm]; rfl
  rw [e0] at hi ⊢
  exact H.join1 (fun n0 => iniC n0 xb e m) G i hi rfl rfl id

theorem begun8_h {w0 w : World} {cs : List (Chunk w0.heap.size)} (H : Has w0 w cs) (e : En) (k x : Int) (k0 : 0 ≤ k) :
    Calls Try.prog 17 #[.int .u8 k, .agg #[.int .i64 e.top, .int .i64 e.bottom, .int .i64 e.entry, .int .i64 e.room], .int .u64 x] w fun r w' => ∃ xb kd xw, r = .returned (.tuple #[.pointer (some ⟨xb, 0, none⟩), .agg #[.int .i64 kd, .int .i64 1, .int .i64 e.top, .int .i64 e.bottom, .int .i64 e.entry, .int .i64 e.room, .int .u64 0, .int .u64 0, .int .u64 xw, .bool false, .int .i64 0]]) ∧ Has w0 w' (cs ++ [dqC _ xb e (kindM k x)]) := by
  have hm : k % 3 = 0 ∨ k % 3 = 1 ∨ k % 3 = 2 := by omega
  rcases hm with hk | hk | hk
  · have e0 : kindM k x = dqPush x := if_pos hk
    rw [e0]
    exact (begunPush e k x w k0 hk).mono fun r w' ⟨xb, v, u, hr, ds, hd, h3⟩ => ⟨xb, v, u, hr, H.joinDq hd 3 h3 rfl⟩
  · have e0 : kindM k x = dqPop := by unfold kindM; rw [if_neg (by omega), if_pos hk]
    rw [e0]
    exact (begunPop e k x w k0 hk).mono fun r w' ⟨xb, v, u, hr, ds, hd, h3⟩ => ⟨xb, v, u, hr, H.joinDq hd 3 h3 rfl⟩
  · have e0 : kindM k x = dqSteal := by unfold kindM; rw [if_neg (by omega), if_neg (by omega)]
    rw [e0]
    exact (begunSteal e k x w k0 hk).mono fun r w' ⟨xb, v, u, hr, ds, hd, h3⟩ => ⟨xb, v, u, hr, H.joinDq hd 3 h3 rfl⟩

end Go.Proofs.Ytlmmaijbppdckaa
