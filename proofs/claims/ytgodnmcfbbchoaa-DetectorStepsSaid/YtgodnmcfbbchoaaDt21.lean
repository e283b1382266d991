/- Who tells the phases (package detector), over memory as parts. Conditions: the Store, the detector and the map are parts, the configuration may be. -/
import Derived.Test.YtgodnmcfbbchoaaDt21p
import Derived.Test.YtgodnmcfbbchoaaFirst5
import Derived.Test.YtgodnmcfbbchoaaCellsH
import Derived.Test.YtgodnmcfbbchoaaFunc
import Derived.Test.YtgodnmcfbbchoaaMeth5b
import Derived.Test.YtgodnmcfbbchoaaThings5
import Derived.Laws.EntriesVeiled
set_option linter.unusedVariables false
set_option linter.unusedSimpArgs false
namespace Go.Proofs.Ytgodnmcfbbchoaa
open Go.ChangeShapes Go.WideShapes Go.ChangeAt Go.RowKit

def dtCells (mb : Nat) (x : Dt) : Array Value := #[.pointer (some ⟨mb, 0, none⟩), .int .i64 x.doing, .int .u64 x.cy, .int .i64 x.turn, .int .i64 x.ek, .int .i64 0, .int .i64 x.ea, .int .i64 x.eb, .int .i64 0]
def dtC (n0 xb mb : Nat) (x : Dt) : Chunk n0 := blkC n0 xb (dtCells mb x) 84
/-- The two variables that a told phase captures. -/
def bxC (n0 b xb : Nat) : Chunk n0 := blkC n0 b #[.pointer (some ⟨xb, 0, none⟩)] 36
def byC (n0 b : Nat) (p : Int) : Chunk n0 := blkC n0 b #[.int .i64 p] 3

theorem set_get2 {α : Type} {l : List α} {i j : Nat} {x : α} (h : l[j]? = some x) (y : α) (hne : i ≠ j) : (l.set i y)[j]? = some x := by
  rw [List.getElem?_set_ne hne]; exact h
theorem lset_same2 {α : Type} {l : List α} {j : Nat} {x : α} (h : l[j]? = some x) (y : α) : (l.set j y)[j]? = some y := by
  rw [List.getElem?_set_self (List.getElem?_eq_some_iff.1 h).1]

theorem set_cellb {w : World} {b o a p : Nat} {u : Value} (v : Value) (h : w.cell? ⟨b, o, none⟩ = some u) (hne : b ≠ a) : (w.setCell ⟨a, p, none⟩ v).cell? ⟨b, o, none⟩ = some u := by
  rw [World.cell?_of_block (w := w) (a := ⟨b, o, none⟩) (Below.heap_setCell _ _ _ _ hne)]; exact h
theorem Has.blkNe {w0 w : World} {cs : List (Chunk w0.heap.size)} (H : Has w0 w cs) {i j : Nat} {a b : Nat} {xs ys : Array Value} {T U : TypeId} (hi : cs[i]? = some (blkC _ a xs T)) (hj : cs[j]? = some (blkC _ b ys U)) (hne : i ≠ j) : a ≠ b := by
  intro e
  exact H.apart i j _ _ hi hj hne (.inl rfl) a (by simp [blkC]) (by simp [blkC, e])

theorem Has.more {w0 w : World} {cs : List (Chunk w0.heap.size)} {j b : Nat} {xs : Array Value} {T : TypeId} (H : Has w0 w (cs.set j (blkC _ b xs T))) (hl : j < cs.length) (o : Nat) (u : Value) : Has w0 (w.setCell ⟨b, o, none⟩ u) (cs.set j (blkC _ b (xs.setIfInBounds o u) T)) := by
  have := H.blkSet j (by rw [List.getElem?_set_self hl]) o u
  rwa [List.set_set] at this

theorem dtNew_h {w0 w : World} {cs : List (Chunk w0.heap.size)} (H : Has w0 w cs) (mb : Nat) :
    Calls Try.prog 13 #[.pointer (some ⟨mb, 0, none⟩)] w fun e w' => ∃ xb, e = .returned (.pointer (some ⟨xb, 0, none⟩)) ∧ Has w0 w' (cs ++ [dtC _ xb mb ⟨0, 0, 0, 0, 0, 0⟩]) := by
  go_enter Try.func13, Try.ntmps13
  go_wp2_with fail
  go_ret
  exact ⟨_, rfl, H.blkNew _ _⟩

theorem tell_h {w0 w : World} {cs : List (Chunk w0.heap.size)} (H : Has w0 w cs) (xb : Nat) (p : Int) :
    Calls Try.prog 68 #[.pointer (some ⟨xb, 0, none⟩), .int .i64 p] w fun e w' => ∃ s, e = .returned (.func (.func 79) #[] #[.pointer (some ⟨s, 0, none⟩), .pointer (some ⟨s + 1, 0, none⟩)]) ∧ Has w0 w' (cs ++ [bxC _ s xb] ++ [byC _ (s + 1) p]) := by
  go_enter Try.func68, Try.ntmps68
  go_wp2_with fail
  go_ret
  have G := (H.blkNew #[.pointer (some ⟨xb, 0, none⟩)] 36).blkNew #[.int .i64 p] 3
  have z1 : ∀ (w : World) o, (w.alloc o).heap.size = w.heap.size + 1 := fun w o => by simp
  simp only [z1] at G
  exact ⟨_, rfl, G⟩

theorem count_h {w0 w : World} {cs : List (Chunk w0.heap.size)} (H : Has w0 w cs) (xb : Nat) (p : Int) :
    Calls Try.prog 71 #[.pointer (some ⟨xb, 0, none⟩), .int .i64 p] w fun e w' => ∃ s, e = .returned (.func (.func 80) #[] #[.pointer (some ⟨s, 0, none⟩), .pointer (some ⟨s + 1, 0, none⟩)]) ∧ Has w0 w' (cs ++ [bxC _ s xb] ++ [byC _ (s + 1) p]) := by
  go_enter Try.func71, Try.ntmps71
  go_wp2_with fail
  go_ret
  have G := (H.blkNew #[.pointer (some ⟨xb, 0, none⟩)] 36).blkNew #[.int .i64 p] 3
  have z1 : ∀ (w : World) o, (w.alloc o).heap.size = w.heap.size + 1 := fun w o => by simp
  simp only [z1] at G
  exact ⟨_, rfl, G⟩

/-- A step that makes an access and changes nothing of the detector but what is told: clearSweep, clearDone, count, end. -/
theorem put_same {w0 : World} {cs : List (Chunk w0.heap.size)} {i j : Nat} {sb g xb mb : Nat} (hij : i ≠ j) {x : Dt} (hj : cs[j]? = some (dtC _ xb mb x)) {w' : World} {l' : List Int} {n' : Int} (H2 : Has w0 w' (cs.set i (storeC w0.heap.size sb g l' n'))) : Has w0 w' ((cs.set i (storeC w0.heap.size sb g l' n')).set j (dtC _ xb mb x)) := by
  have hj2 := set_get2 hj (storeC w0.heap.size sb g l' n') hij
  have e : (cs.set i (storeC w0.heap.size sb g l' n')).set j (dtC _ xb mb x) = cs.set i (storeC w0.heap.size sb g l' n') := by
    apply List.ext_getElem?
    intro k
    by_cases hk : j = k
    · subst hk; rw [List.getElem?_set_self (List.getElem?_eq_some_iff.1 hj2).1, hj2]
    · rw [List.getElem?_set_ne hk]
  rw [e]; exact H2

theorem set_front {α : Type} {l m : List α} {k : Nat} {x : α} (y : α) (h : l[k]? = some x) : (l ++ m).set k y = l.set k y ++ m := List.set_append_left k y (List.getElem?_eq_some_iff.1 h).1

theorem cfg_field (c : Cfg) (w : World) : (Instr.field 24 (.agg #[.int .i64 c.c0, .int .i64 c.c1, .int .i64 c.c2, .int .i64 c.c3, .int .i64 c.c4, .int .i64 c.mr, .int .i64 c.mu, .int .i64 c.dq, .int .i64 c.ch, .int .i64 c.bf, .int .i64 c.rt, .int .i64 c.sw]) 2).run Try.prog w = .ok (.int .i64 c.mu) w := by kernel_rfl

section
variable {w0 w : World} {cs : List (Chunk w0.heap.size)} (H : Has w0 w cs) (i j q : Nat) {sb g xb mb : Nat} {l : List Int} {n : Int} {av rv : Value} {c : Cfg} (hi : cs[i]? = some (storeC _ sb g l n)) (hq : cs[q]? = some (mapC _ mb av rv c)) (hij : i ≠ j) (h : CfgOk c)
include H hi hq hij h

set_option maxRecDepth 100000 in
set_option maxHeartbeats 2000000 in
theorem tell1_h (u v : Nat) {tb pb : Nat} (d : Nat) (cy t p ek ea eb dr : Int) (hj : cs[j]? = some (dtC _ xb mb ⟨d, cy, t, ek, ea, eb⟩)) (hu : cs[u]? = some (bxC _ tb xb)) (hv : cs[v]? = some (byC _ pb p)) (hiu : i ≠ u) (hiv : i ≠ v) (hju : j ≠ u) (hjv : j ≠ v) (c0 : 0 ≤ cy) (c1 : cy < 1000000) (d1 : (d : Int) ≤ 13) :
    Calls Try.prog 79 #[.pointer (some ⟨sb, 0, none⟩), .int .i64 dr, .pointer (some ⟨tb, 0, none⟩), .pointer (some ⟨pb, 0, none⟩)] w fun e w' => e = .returned (.int .i64 (((d + 1) % 14 : Nat) : Int)) ∧
      Has w0 w' ((cs.set i (storeC _ sb g (mput l 0 (wPhase cy p)) (wrap64 (n + 1)))).set j (dtC _ xb mb ⟨d, cy, 0, 7, p, cy⟩)) := by
  obtain ⟨x0, x1, x2, x3, x4, x5, x6, x7, x8, fx⟩ := row9 (H.get j hj)
  obtain ⟨t0, ft⟩ := row1 (H.get u hu)
  obtain ⟨p0, fp⟩ := row1 (H.get v hv)
  have IJ := Lib.hid hij
  have IU := Lib.hid hiu
  have IV := Lib.hid hiv
  have JU := Lib.hid hju
  have JV := Lib.hid hjv
  clear hij hiu hiv hju hjv
  dsimp only at x1 x2 x3
  go_enter Try.func79, Try.ntmps79
  go_wp2_with fail
  go_region_held3 (fun w' => w'.cell? ⟨tb, 0, none⟩ = some (.pointer (some ⟨xb, 0, none⟩)) ∧ w'.cell? ⟨xb, 0, none⟩ = some (.pointer (some ⟨mb, 0, none⟩)) ∧ w'.cell? ⟨xb, 2, none⟩ = some (.int .u64 cy) ∧ w'.cell? ⟨pb, 0, none⟩ = some (.int .i64 p)) (refine ⟨?_, ?_, ?_, ?_⟩ <;> (first | (with_reducible assumption) | (simp only [cell_drewN1, cell_drew1]; with_reducible assumption))) (first | (go_at_call 23; refine (Phase_q ((H.drewN _).mAt q hq h)).mono ?_; rintro e w1 ⟨rfl, d1, rfl⟩) | (go_at_call 24; refine (Phase_c _ _ c0 (by omega) _).mono ?_; rintro e w1 ⟨rfl, d1, rfl⟩) | (go_at_call 14; refine (Put_h (H.drewN _) i hi _ _).mono ?_; rintro e w2 ⟨rfl, H2⟩; obtain ⟨y0, y1, y2, y3, y4, y5, y6, y7, y8, fy⟩ := row9 (H2.get j (set_get2 hj _ IJ.out)); obtain ⟨s0, fs⟩ := row1 (H2.get u (set_get2 hu _ IU.out)); obtain ⟨r0, fr⟩ := row1 (H2.get v (set_get2 hv _ IV.out))))
  have hj2 := set_get2 hj (storeC w0.heap.size sb g (mput l 0 (wPhase cy p)) (wrap64 (n + 1))) IJ.out
  clear x0 x1 x2 x3 x4 x5 x6 x7 x8 fx t0 ft p0 fp
  have d2 : (0 : Int) ≤ (d : Int) + 1 := by omega
  have wcy : IntKind.i64.wrap cy = cy := wrapi64_id _ (by omega) (by omega)
  go_wp2_with fail
  have ne1 : tb ≠ xb := H2.blkNe (set_get2 hu _ IU.out) hj2 (Ne.symm JU.out)
  have ne2 : pb ≠ xb := H2.blkNe (set_get2 hv _ IV.out) hj2 (Ne.symm JV.out)
  go_region_held3 (fun w' => w'.cell? ⟨tb, 0, none⟩ = some (.pointer (some ⟨xb, 0, none⟩)) ∧ w'.cell? ⟨xb, 2, none⟩ = some (.int .u64 cy) ∧ w'.cell? ⟨pb, 0, none⟩ = some (.int .i64 p)) (refine ⟨?_, ?_, ?_⟩ <;> (first | (with_reducible assumption) | (simp only [cell_drewN1, cell_drew1]; with_reducible assumption) | ((try simp only [cell_drewN1, cell_drew1]); (repeat (first | (with_reducible refine set_cell1 _ ?_ (by decide)) | (with_reducible refine set_cellb _ ?_ ne1) | (with_reducible refine set_cellb _ ?_ ne2))); (first | (with_reducible assumption) | (simp only [cell_drewN1, cell_drew1]; with_reducible assumption))))) (fail)
  all_goals go_wp2_with fail
  go_ret
  have hl : j < (cs.set i (storeC w0.heap.size sb g (mput l 0 (wPhase cy p)) (wrap64 (n + 1)))).length := (List.getElem?_eq_some_iff.1 hj2).1
  have H3 := (((((H2.blkSet j hj2 4 (.int .i64 7)).more hl 5 (.int .i64 0)).more hl 6 (.int .i64 p)).more hl 7 (.int .i64 cy)).more hl 8 (.int .i64 0)).more hl 3 (.int .i64 0)
  exact ⟨ret_int (by omega), H3.drew⟩

set_option maxRecDepth 100000 in
set_option maxHeartbeats 2000000 in
theorem count1_h (u v : Nat) {tb pb : Nat} (x : Dt) (p : Nat) (dr : Int) (hj : cs[j]? = some (dtC _ xb mb x)) (hu : cs[u]? = some (bxC _ tb xb)) (hv : cs[v]? = some (byC _ pb p)) (hiu : i ≠ u) (hiv : i ≠ v) :
    Calls Try.prog 80 #[.pointer (some ⟨sb, 0, none⟩), .int .i64 dr, .pointer (some ⟨tb, 0, none⟩), .pointer (some ⟨pb, 0, none⟩)] w fun e w' => e = .returned (.int .i64 ((bif mld l 1 != 0 then 7 else p : Nat) : Int)) ∧
      Has w0 w' ((cs.set i (storeC _ sb g l (wrap64 (n + 1)))).set j (dtC _ xb mb x)) := by
  obtain ⟨x0, x1, x2, x3, x4, x5, x6, x7, x8, fx⟩ := row9 (H.get j hj)
  obtain ⟨t0, ft⟩ := row1 (H.get u hu)
  obtain ⟨p0, fp⟩ := row1 (H.get v hv)
  have IJ := Lib.hid hij
  have IU := Lib.hid hiu
  have IV := Lib.hid hiv
  clear hij hiu hiv
  obtain ⟨K, hK⟩ : ∃ K, K = mld l 1 := ⟨_, rfl⟩
  rw [← hK]
  have HK := Lib.hid hK
  clear hK
  go_enter Try.func80, Try.ntmps80
  go_wp2_with fail
  refine (Work_q (H.mAt q hq h)).mono ?_
  rintro e w1 ⟨rfl, d1, rfl⟩
  go_wp2_with fail
  refine (Load_h (H.drewN _) i hi _).mono ?_
  rw [← HK.out]
  rintro e w2 ⟨rfl, H2⟩
  obtain ⟨r0, fr⟩ := row1 (H2.get v (set_get2 hv _ IV.out))
  have H3 := put_same IJ.out hj H2
  clear x0 x1 x2 x3 x4 x5 x6 x7 x8 fx t0 ft p0 fp
  by_cases hz : K = 0
  · subst hz
    go_wp2_with fail
    go_ret
    exact ⟨rfl, H3⟩
  · have hz1 : (K != 0) = true := by simpa using hz
    go_wp2_with fail
    go_ret
    exact ⟨by rw [hz1]; rfl, H3⟩

set_option maxRecDepth 100000 in
set_option maxHeartbeats 2000000 in
theorem clearSweep_h (x : Dt) (dr : Int) (hj : cs[j]? = some (dtC _ xb mb x)) (c0 : 0 ≤ x.cy) (c1 : x.cy < 1000000) :
    Calls Try.prog 72 #[.pointer (some ⟨xb, 0, none⟩), .pointer (some ⟨sb, 0, none⟩), .int .i64 dr] w fun e w' => e = .returned (.int .i64 10) ∧
      Has w0 w' ((cs.set i (storeC _ sb g (mput l 2 (x.cy * 4294967296)) (wrap64 (n + 1)))).set j (dtC _ xb mb x)) := by
  obtain ⟨x0, x1, x2, x3, x4, x5, x6, x7, x8, fx⟩ := row9 (H.get j hj)
  have IJ := Lib.hid hij
  clear hij
  have HJ := Lib.hid hj
  clear hj
  obtain ⟨d, cy, t, ek, ea, eb⟩ := x
  dsimp only at x1 x2 x3 c0 c1
  have wcy : IntKind.u32.wrap cy = cy := wrapu32_id _ (by omega) (by omega)
  go_enter Try.func72, Try.ntmps72
  go_wp2_with fail
  go_region_held3 (fun w' => w'.cell? ⟨xb, 0, none⟩ = some (.pointer (some ⟨mb, 0, none⟩)) ∧ w'.cell? ⟨xb, 2, none⟩ = some (.int .u64 cy)) (refine ⟨?_, ?_⟩ <;> (first | (with_reducible assumption) | (simp only [cell_drewN1, cell_drew1]; with_reducible assumption))) (first | (go_at_call 81; refine (Sweep_q ((H.drewN _).mAt q hq h)).mono ?_; rintro e w1 ⟨rfl, d1, rfl⟩) | (go_at_call 39; refine (Pair_c cy 0 c0 (by omega) (by omega) (by omega) _).mono ?_; rintro e w1 ⟨rfl, d1, rfl⟩) | (go_at_call 14; refine (Put_h (H.drewN _) i hi _ _).mono ?_; rintro e w2 ⟨rfl, H2⟩; obtain ⟨y0, y1, y2, y3, y4, y5, y6, y7, y8, fy⟩ := row9 (H2.get j (set_get2 HJ.out _ IJ.out))))
  all_goals go_wp2_with fail
  go_ret
  exact ⟨rfl, put_same IJ.out HJ.out (by first | exact H2 | exact H2.drewN _)⟩

set_option maxRecDepth 100000 in
set_option maxHeartbeats 2000000 in
theorem clearDone_h (x : Dt) (dr : Int) (hj : cs[j]? = some (dtC _ xb mb x)) :
    Calls Try.prog 73 #[.pointer (some ⟨xb, 0, none⟩), .pointer (some ⟨sb, 0, none⟩), .int .i64 dr] w fun e w' => e = .returned (.int .i64 11) ∧
      Has w0 w' ((cs.set i (storeC _ sb g (mput l 3 0) (wrap64 (n + 1)))).set j (dtC _ xb mb x)) := by
  obtain ⟨x0, x1, x2, x3, x4, x5, x6, x7, x8, fx⟩ := row9 (H.get j hj)
  have IJ := Lib.hid hij
  clear hij
  go_enter Try.func73, Try.ntmps73
  go_wp2_with fail
  refine (Done_q (H.mAt q hq h)).mono ?_
  rintro e w1 ⟨rfl, d1, rfl⟩
  go_wp2_with fail
  refine (Put_h (H.drewN _) i hi _ _).mono ?_
  rintro e w2 ⟨rfl, H2⟩
  go_wp2_with fail
  go_ret
  exact ⟨rfl, put_same IJ.out hj H2⟩

set_option maxRecDepth 100000 in
set_option maxHeartbeats 2000000 in
theorem end_h (x : Dt) (dr : Int) (hj : cs[j]? = some (dtC _ xb mb x)) :
    Calls Try.prog 74 #[.pointer (some ⟨xb, 0, none⟩), .pointer (some ⟨sb, 0, none⟩), .int .i64 dr] w fun e w' => e = .returned (.int .i64 ((bif mld l 3 != c.pt then 12 else 13 : Nat) : Int)) ∧
      Has w0 w' ((cs.set i (storeC _ sb g l (wrap64 (n + 1)))).set j (dtC _ xb mb x)) := by
  obtain ⟨x0, x1, x2, x3, x4, x5, x6, x7, x8, fx⟩ := row9 (H.get j hj)
  have IJ := Lib.hid hij
  clear hij
  have hpt := (cfg_bd h).pt
  have wpt : IntKind.u64.wrap c.pt = c.pt := wrapu64_id _ (by omega) (by omega)
  obtain ⟨K, hK⟩ : ∃ K, K = mld l 3 := ⟨_, rfl⟩
  rw [← hK]
  have HK := Lib.hid hK
  clear hK
  have H0 := H
  by_cases hz : K = c.pt
  · have hz1 : (K != c.pt) = false := by simpa using hz
    rw [hz1]
    clear hz
    go_enter Try.func74, Try.ntmps74
    go_wp2_with fail
    go_region_held3 (fun w' => w'.cell? ⟨xb, 0, none⟩ = some (.pointer (some ⟨mb, 0, none⟩))) (first | (with_reducible assumption) | (simp only [cell_drewN1, cell_drew1]; with_reducible assumption)) (first | (go_at_call 19; refine (Done_q ((H.drewN _).mAt q hq h)).mono ?_; rintro e w1 ⟨rfl, d1, rfl⟩) | (go_at_call 22; refine (Load_h (H.drewN _) i hi _).mono ?_; rw [← HK.out]; rintro e w2 ⟨rfl, H2⟩; obtain ⟨y0, y1, y2, y3, y4, y5, y6, y7, y8, fy⟩ := row9 (H2.get j (set_get2 hj _ IJ.out))) | (go_at_call 20; first | (refine (Parts_q (H2.mAt q (set_get2 hq _ (by rintro rfl; rw [hi] at hq; exact absurd (congrArg (fun o => o.map Chunk.ro) hq) (by simp [storeC, mapC]))) h)).mono ?_; rintro e w3 ⟨rfl, d3, rfl⟩) | (refine (Parts_q ((H.drewN _).mAt q hq h)).mono ?_; rintro e w3 ⟨rfl, d3, rfl⟩)))
    all_goals go_wp2_with fail
    all_goals go_ret
    all_goals exact ⟨rfl, put_same IJ.out hj (by first | exact H2 | exact H2.drewN _)⟩
  · have hz1 : (K != c.pt) = true := by simpa using hz
    rw [hz1]
    clear hz
    go_enter Try.func74, Try.ntmps74
    go_wp2_with fail
    go_region_held3 (fun w' => w'.cell? ⟨xb, 0, none⟩ = some (.pointer (some ⟨mb, 0, none⟩))) (first | (with_reducible assumption) | (simp only [cell_drewN1, cell_drew1]; with_reducible assumption)) (first | (go_at_call 19; refine (Done_q ((H.drewN _).mAt q hq h)).mono ?_; rintro e w1 ⟨rfl, d1, rfl⟩) | (go_at_call 22; refine (Load_h (H.drewN _) i hi _).mono ?_; rw [← HK.out]; rintro e w2 ⟨rfl, H2⟩; obtain ⟨y0, y1, y2, y3, y4, y5, y6, y7, y8, fy⟩ := row9 (H2.get j (set_get2 hj _ IJ.out))) | (go_at_call 20; first | (refine (Parts_q (H2.mAt q (set_get2 hq _ (by rintro rfl; rw [hi] at hq; exact absurd (congrArg (fun o => o.map Chunk.ro) hq) (by simp [storeC, mapC]))) h)).mono ?_; rintro e w3 ⟨rfl, d3, rfl⟩) | (refine (Parts_q ((H.drewN _).mAt q hq h)).mono ?_; rintro e w3 ⟨rfl, d3, rfl⟩)))
    all_goals go_wp2_with fail
    all_goals go_ret
    all_goals exact ⟨rfl, put_same IJ.out hj (by first | exact H2 | exact H2.drewN _)⟩


set_option maxRecDepth 100000 in
set_option maxHeartbeats 4000000 in
theorem said_h (d : Nat) (cy t least ek ea eb : Int) (hj : cs[j]? = some (dtC _ xb mb ⟨d, cy, t, 0, 0, 0⟩)) (t0 : 0 ≤ t) (t1 : t ≤ 4) (d1 : (d : Int) ≤ 13) :
    Calls Try.prog 78 #[.pointer (some ⟨xb, 0, none⟩), .pointer (some ⟨sb, 0, none⟩), .int .u64 least] w fun e w' => e = .returned (.int .i64 (dtSaid c l d cy t least).doing) ∧
      Has w0 w' ((cs.set i (storeC _ sb g l (wrap64 (n + 1)))).set j (dtC _ xb mb ⟨d, cy, (dtSaid c l d cy t least).turn, 0, 0, 0⟩)) := by
  obtain ⟨x0, x1, x2, x3, x4, x5, x6, x7, x8, fx⟩ := row9 (H.get j hj)
  have IJ := Lib.hid hij
  clear hij
  obtain ⟨K, hK⟩ : ∃ K, K = mld l (c.ackAt t) := ⟨_, rfl⟩
  have hS := said_cases c l d cy t least
  rw [← hK] at hS
  have HK := Lib.hid hK
  clear hK
  obtain ⟨S, hSd⟩ : ∃ S, S = dtSaid c l d cy t least := ⟨_, rfl⟩
  rw [← hSd] at hS ⊢
  clear hSd
  dsimp only at x1 x2 x3
  rcases hS with ⟨k1, rfl⟩ | ⟨k1, k2, rfl⟩ | ⟨k1, k2, rfl⟩
  · go_enter Try.func78, Try.ntmps78
    go_wp2_with fail
    go_region_held3 (fun w' => w'.cell? ⟨xb, 0, none⟩ = some (.pointer (some ⟨mb, 0, none⟩)) ∧ w'.cell? ⟨xb, 3, none⟩ = some (.int .i64 t)) (refine ⟨?_, ?_⟩ <;> (first | (with_reducible assumption) | (simp only [cell_drewN1, cell_drew1]; with_reducible assumption))) (first | (go_at_call 15; refine (Ack_q ((H.drewN _).mAt q hq h) t).mono ?_; rintro e w1 ⟨rfl, d1, rfl⟩) | (go_at_call 22; refine (Load_h (H.drewN _) i hi _).mono ?_; rw [← HK.out]; rintro e w2 ⟨rfl, H2⟩; obtain ⟨y0, y1, y2, y3, y4, y5, y6, y7, y8, fy⟩ := row9 (H2.get j (set_get2 hj _ IJ.out))))
    have H3 := put_same IJ.out hj H2
    all_goals go_wp2_with fail
    go_ret
    exact ⟨rfl, H3⟩
  · have k1' : ¬ (K < least) := by omega
    have wt : IntKind.i64.wrap (t + 1) = t + 1 := wrapi64_id _ (by omega) (by omega)
    have fld := cfg_field c
    go_enter Try.func78, Try.ntmps78
    go_wp2_with fail
    go_region_held3 (fun w' => w'.cell? ⟨xb, 0, none⟩ = some (.pointer (some ⟨mb, 0, none⟩)) ∧ w'.cell? ⟨xb, 3, none⟩ = some (.int .i64 t)) (refine ⟨?_, ?_⟩ <;> (first | (with_reducible assumption) | (simp only [cell_drewN1, cell_drew1]; with_reducible assumption))) (first | (go_at_call 15; refine (Ack_q ((H.drewN _).mAt q hq h) t).mono ?_; rintro e w1 ⟨rfl, d1, rfl⟩) | (go_at_call 22; refine (Load_h (H.drewN _) i hi _).mono ?_; rw [← HK.out]; rintro e w2 ⟨rfl, H2⟩; obtain ⟨y0, y1, y2, y3, y4, y5, y6, y7, y8, fy⟩ := row9 (H2.get j (set_get2 hj _ IJ.out))))
    have hj2 := set_get2 hj (storeC w0.heap.size sb g l (wrap64 (n + 1))) IJ.out
    clear x0 x1 x2 x3 x4 x5 x6 x7 x8 fx
    all_goals go_wp2_with fail
    have H3 : Has w0 _ ((cs.set i (storeC _ sb g l (wrap64 (n + 1)))).set j (dtC _ xb mb ⟨d, cy, t + 1, 0, 0, 0⟩)) := H2.blkSet j hj2 3 (.int .i64 (t + 1))
    obtain ⟨W, HW, eW⟩ := H3.name
    rw [← eW.out]
    clear H3 H2 y0 y1 y2 y3 y4 y5 y6 y7 y8 fy eW
    obtain ⟨z0, z1, z2, z3, z4, z5, z6, z7, z8, fz⟩ := row9 (HW.get j (lset_same2 hj2 _))
    go_region_held3 (fun w' => w'.cell? ⟨xb, 0, none⟩ = some (.pointer (some ⟨mb, 0, none⟩)) ∧ w'.cell? ⟨xb, 3, none⟩ = some (.int .i64 (t + 1))) (refine ⟨?_, ?_⟩ <;> (first | (with_reducible assumption) | (simp only [cell_drewN1, cell_drew1]; with_reducible assumption))) (first | (go_at_call 85; refine (Config_c ((HW.drewN _).mAt q (set_get2 (set_get2 hq _ (by rintro rfl; rw [hi] at hq; exact absurd (congrArg (fun o => o.map Chunk.ro) hq) (by simp [storeC, mapC]))) _ (by rintro rfl; rw [hj] at hq; exact absurd (congrArg (fun o => o.map Chunk.ro) hq) (by simp [dtC, blkC, mapC]))) h)).mono ?_; unfold cfgV cfgCells; rintro e w4 ⟨rfl, b4⟩; have H5 := (HW.drewN _).up b4; obtain ⟨s0, s1, s2, s3, s4, s5, s6, s7, s8, fs⟩ := row9 (H5.get j (lset_same2 hj2 _))))
    all_goals go_wp2_with fail
    go_ret
    exact ⟨rfl, H5⟩
  · have k1' : ¬ (K < least) := by omega
    have k2' : ¬ (t + 1 < c.mu) := by omega
    have wt : IntKind.i64.wrap (t + 1) = t + 1 := wrapi64_id _ (by omega) (by omega)
    have fld := cfg_field c
    go_enter Try.func78, Try.ntmps78
    go_wp2_with fail
    go_region_held3 (fun w' => w'.cell? ⟨xb, 0, none⟩ = some (.pointer (some ⟨mb, 0, none⟩)) ∧ w'.cell? ⟨xb, 3, none⟩ = some (.int .i64 t)) (refine ⟨?_, ?_⟩ <;> (first | (with_reducible assumption) | (simp only [cell_drewN1, cell_drew1]; with_reducible assumption))) (first | (go_at_call 15; refine (Ack_q ((H.drewN _).mAt q hq h) t).mono ?_; rintro e w1 ⟨rfl, d1, rfl⟩) | (go_at_call 22; refine (Load_h (H.drewN _) i hi _).mono ?_; rw [← HK.out]; rintro e w2 ⟨rfl, H2⟩; obtain ⟨y0, y1, y2, y3, y4, y5, y6, y7, y8, fy⟩ := row9 (H2.get j (set_get2 hj _ IJ.out))))
    have hj2 := set_get2 hj (storeC w0.heap.size sb g l (wrap64 (n + 1))) IJ.out
    clear x0 x1 x2 x3 x4 x5 x6 x7 x8 fx
    all_goals go_wp2_with fail
    have H3 : Has w0 _ ((cs.set i (storeC _ sb g l (wrap64 (n + 1)))).set j (dtC _ xb mb ⟨d, cy, t + 1, 0, 0, 0⟩)) := H2.blkSet j hj2 3 (.int .i64 (t + 1))
    obtain ⟨W, HW, eW⟩ := H3.name
    rw [← eW.out]
    clear H3 H2 y0 y1 y2 y3 y4 y5 y6 y7 y8 fy eW
    obtain ⟨z0, z1, z2, z3, z4, z5, z6, z7, z8, fz⟩ := row9 (HW.get j (lset_same2 hj2 _))
    go_region_held3 (fun w' => w'.cell? ⟨xb, 0, none⟩ = some (.pointer (some ⟨mb, 0, none⟩)) ∧ w'.cell? ⟨xb, 3, none⟩ = some (.int .i64 (t + 1))) (refine ⟨?_, ?_⟩ <;> (first | (with_reducible assumption) | (simp only [cell_drewN1, cell_drew1]; with_reducible assumption))) (first | (go_at_call 85; refine (Config_c ((HW.drewN _).mAt q (set_get2 (set_get2 hq _ (by rintro rfl; rw [hi] at hq; exact absurd (congrArg (fun o => o.map Chunk.ro) hq) (by simp [storeC, mapC]))) _ (by rintro rfl; rw [hj] at hq; exact absurd (congrArg (fun o => o.map Chunk.ro) hq) (by simp [dtC, blkC, mapC]))) h)).mono ?_; unfold cfgV cfgCells; rintro e w4 ⟨rfl, b4⟩; have H5 := (HW.drewN _).up b4; obtain ⟨s0, s1, s2, s3, s4, s5, s6, s7, s8, fs⟩ := row9 (H5.get j (lset_same2 hj2 _))))
    all_goals go_wp2_with fail
    go_ret
    exact ⟨ret_int (by omega), H5⟩

set_option maxRecDepth 100000 in
theorem arm_h (cy t dr : Int) (hj : cs[j]? = some (dtC _ xb mb ⟨1, cy, t, 0, 0, 0⟩)) (t0 : 0 ≤ t) (t1 : t ≤ 4) (c0 : 1 ≤ cy) (c1 : cy < 1000000) :
    Calls Try.prog 67 #[.pointer (some ⟨xb, 0, none⟩), .pointer (some ⟨sb, 0, none⟩), .int .i64 dr] w fun e w' => e = .returned (.int .i64 (dtSaid c l 1 cy t (3 * cy - 2)).doing) ∧
      Has w0 w' ((cs.set i (storeC _ sb g l (wrap64 (n + 1)))).set j (dtC _ xb mb ⟨1, cy, (dtSaid c l 1 cy t (3 * cy - 2)).turn, 0, 0, 0⟩)) := by
  obtain ⟨x0, x1, x2, x3, x4, x5, x6, x7, x8, fx⟩ := row9 (H.get j hj)
  have IJ := Lib.hid hij
  clear hij
  dsimp only at x1 x2 x3
  go_enter Try.func67, Try.ntmps67
  go_wp2_with fail
  refine (said_h H i j q hi hq IJ.out h 1 cy t _ 0 0 0 hj t0 t1 (by decide)).mono ?_
  rintro e w1 ⟨rfl, H1⟩
  go_wp2_with fail
  go_ret
  exact ⟨rfl, H1⟩

set_option maxRecDepth 100000 in
theorem settle_h (cy t dr : Int) (hj : cs[j]? = some (dtC _ xb mb ⟨3, cy, t, 0, 0, 0⟩)) (t0 : 0 ≤ t) (t1 : t ≤ 4) (c0 : 1 ≤ cy) (c1 : cy < 1000000) :
    Calls Try.prog 69 #[.pointer (some ⟨xb, 0, none⟩), .pointer (some ⟨sb, 0, none⟩), .int .i64 dr] w fun e w' => e = .returned (.int .i64 (dtSaid c l 3 cy t (3 * cy - 1)).doing) ∧
      Has w0 w' ((cs.set i (storeC _ sb g l (wrap64 (n + 1)))).set j (dtC _ xb mb ⟨3, cy, (dtSaid c l 3 cy t (3 * cy - 1)).turn, 0, 0, 0⟩)) := by
  obtain ⟨x0, x1, x2, x3, x4, x5, x6, x7, x8, fx⟩ := row9 (H.get j hj)
  have IJ := Lib.hid hij
  clear hij
  dsimp only at x1 x2 x3
  go_enter Try.func69, Try.ntmps69
  go_wp2_with fail
  refine (said_h H i j q hi hq IJ.out h 3 cy t _ 0 0 0 hj t0 t1 (by decide)).mono ?_
  rintro e w1 ⟨rfl, H1⟩
  go_wp2_with fail
  go_ret
  exact ⟨rfl, H1⟩

set_option maxRecDepth 100000 in
theorem root_h (cy t dr : Int) (hj : cs[j]? = some (dtC _ xb mb ⟨5, cy, t, 0, 0, 0⟩)) (t0 : 0 ≤ t) (t1 : t ≤ 4) (c0 : 1 ≤ cy) (c1 : cy < 1000000) :
    Calls Try.prog 70 #[.pointer (some ⟨xb, 0, none⟩), .pointer (some ⟨sb, 0, none⟩), .int .i64 dr] w fun e w' => e = .returned (.int .i64 (dtSaid c l 5 cy t (3 * cy)).doing) ∧
      Has w0 w' ((cs.set i (storeC _ sb g l (wrap64 (n + 1)))).set j (dtC _ xb mb ⟨5, cy, (dtSaid c l 5 cy t (3 * cy)).turn, 0, 0, 0⟩)) := by
  obtain ⟨x0, x1, x2, x3, x4, x5, x6, x7, x8, fx⟩ := row9 (H.get j hj)
  have IJ := Lib.hid hij
  clear hij
  dsimp only at x1 x2 x3
  go_enter Try.func70, Try.ntmps70
  go_wp2_with fail
  refine (said_h H i j q hi hq IJ.out h 5 cy t _ 0 0 0 hj t0 t1 (by decide)).mono ?_
  rintro e w1 ⟨rfl, H1⟩
  go_wp2_with fail
  go_ret
  exact ⟨rfl, H1⟩

set_option maxRecDepth 100000 in
set_option maxHeartbeats 2000000 in
theorem rest_h (cy t dr : Int) (hj : cs[j]? = some (dtC _ xb mb ⟨0, cy, t, 0, 0, 0⟩)) (c0 : 0 ≤ cy) (c1 : cy < 999999) (r0 : 0 ≤ dr) :
    Calls Try.prog 66 #[.pointer (some ⟨xb, 0, none⟩), .pointer (some ⟨sb, 0, none⟩), .int .i64 dr] w fun e w' => e = .returned (.int .i64 (bif dr % 2 == 0 then 0 else 1)) ∧
      Has w0 w' (bif dr % 2 == 0 then cs else ((cs.set i (storeC _ sb g (mput l 0 (wPhase (cy + 1) 1)) (wrap64 (n + 1)))).set j (dtC _ xb mb ⟨0, cy + 1, 0, 7, 1, cy + 1⟩))) := by
  obtain ⟨x0, x1, x2, x3, x4, x5, x6, x7, x8, fx⟩ := row9 (H.get j hj)
  have IJ := Lib.hid hij
  clear hij
  dsimp only at x1 x2 x3
  obtain ⟨B, hB⟩ : ∃ B, (dr % 2 == 0) = B := ⟨_, rfl⟩
  rw [hB]
  cases B with
  | true =>
    go_enter Try.func66, Try.ntmps66
    go_wp2_with fail
    go_ret
    exact ⟨rfl, H⟩
  | false =>
    go_enter Try.func66, Try.ntmps66
    go_wp2_with fail
    have H3 : Has w0 _ (cs.set j (dtC _ xb mb ⟨0, cy + 1, t, 0, 0, 0⟩)) := H.blkSet j hj 2 (.int .u64 (cy + 1))
    obtain ⟨W, HW, eW⟩ := H3.name
    rw [← eW.out]
    clear H3 eW x0 x1 x2 x3 x4 x5 x6 x7 x8 fx
    have hj2 := lset_same2 hj (dtC w0.heap.size xb mb ⟨0, cy + 1, t, 0, 0, 0⟩)
    have hi2 := set_get2 hi (dtC w0.heap.size xb mb ⟨0, cy + 1, t, 0, 0, 0⟩) (Ne.symm IJ.out)
    have QJ : j ≠ q := by rintro rfl; rw [hj] at hq; exact absurd (congrArg (fun o => o.map Chunk.ro) hq) (by simp [dtC, blkC, mapC])
    have hq2 := set_get2 hq (dtC w0.heap.size xb mb ⟨0, cy + 1, t, 0, 0, 0⟩) QJ
    have QJ' := Lib.hid QJ
    clear QJ
    generalize hcs : cs.set j (dtC w0.heap.size xb mb ⟨0, cy + 1, t, 0, 0, 0⟩) = ds at HW hi2 hj2 hq2
    have HCS := Lib.hid hcs
    clear hcs
    refine (tell_h HW xb 1).mono ?_
    rintro e w1 ⟨s, rfl, H4⟩
    go_wp2_with fail
    have il : i < ds.length := (List.getElem?_eq_some_iff.1 hi2).1
    have jl : j < ds.length := (List.getElem?_eq_some_iff.1 hj2).1
    refine (tell1_h H4 i j q (get_app (get_app hi2 _) _) (get_app (get_app hq2 _) _) IJ.out h ds.length (ds.length + 1) 0 (cy + 1) t 1 0 0 0 dr (get_app (get_app hj2 _) _) (get_app (get_last ds _) _) (by simp) (by omega) (by omega) (by omega) (by omega) (by omega) (by omega) (by decide)).mono ?_
    rintro e w2 ⟨rfl, H5⟩
    go_wp2_with fail
    go_ret
    refine ⟨rfl, ?_⟩
    rw [List.append_assoc, set_front _ hi2, set_front _ (set_get2 hj2 _ IJ.out), ← HCS.out] at H5
    have H6 := H5.front
    rw [List.set_comm _ _ (Ne.symm IJ.out), List.set_set] at H6
    exact H6

end

end Go.Proofs.Ytgodnmcfbbchoaa
