/- The walk of StackFirst: it answers true, and nothing that was there is changed. No condition but that the arguments can be read. -/
import Derived.Test.YtaciapjohakpgaaLaw9a
import Derived.Test.YtaciapjohakpgaaRun9
set_option linter.unusedVariables false
namespace Go.Proofs.Ytaciapjohakpgaa
open Go.ChangeShapes Go.WideShapes Go.ChangeAt Go.RowKit

theorem sl_lits_int (w : World) (xs : List Int) : Sl (w.alloc (.cells (xs.map (Value.int .i64)).toArray 3)) [] .i64 (.slice (some ⟨w.heap.size, 0, none⟩) xs.length xs.length) xs := by
  refine ⟨_, _, rfl, Nat.le_refl _, .inr ⟨w.heap.size, 0, rfl, by simp, by simp, fun j hj => ?_⟩⟩
  have hb : (w.alloc (.cells (xs.map (Value.int .i64)).toArray 3)).heap[w.heap.size]? = some (.cells (xs.map (Value.int .i64)).toArray 3 (0, 0)) := blk_new w _ 0
  rw [blk_cell hb]
  simp [hj]

theorem get_mld {l : List Int} {i : Int} (h : 0 ≤ i ∧ i < l.length) : l[i.toNat]? = some (mld l i) := by
  have hj : i.toNat < l.length := by omega
  rw [mld_in h]; simp only [List.getD, List.getElem?_eq_getElem hj, Option.getD_some]

theorem lk123 (k : Int) : lkAt [1, 2, 3] k = if 1 ≤ k ∧ k ≤ 3 then k else -1 := by
  unfold lkAt
  show (if 1 ≤ k ∧ k ≤ 3 then _ else _) = _
  by_cases h : 1 ≤ k ∧ k ≤ 3
  · rw [if_pos h, if_pos h]
    have : k = 1 ∨ k = 2 ∨ k = 3 := by omega
    rcases this with rfl | rfl | rfl <;> rfl
  · rw [if_neg h, if_neg h]

set_option maxRecDepth 100000 in
set_option maxHeartbeats 4000000 in
theorem first_pushW (l : List Int) (a : Option Addr) (cap : Nat) (item : Int) (w : World) (hsl : Sl w [] .u64 (.slice a l.length cap) l) (hws : Ws l) (h1 : ¬ (40 : Int) < (l.length : Int)) (h2 : ¬ (l.length : Int) < 4) (i0 : 0 ≤ item) (i1 : item < 4294967296) :
    Calls Try.prog 4 #[.slice a l.length cap, .int .u32 item, .bool true] w fun e w' => e = .returned (.bool true) ∧ Below w.heap.size w w' := by
  have g1 : decide ((40 : Int) < (l.length : Int)) = false := by simpa using h1
  have g2 : decide ((l.length : Int) < (4 : Int)) = false := by simpa using h2
  have hl12 : l.length < 1000000000000 := by omega
  have hp0 : 0 < l.length := by omega
  have hne : l ≠ [] := by rintro rfl; simp at h2
  have SL := Lib.hid hsl
  obtain ⟨b, off, rfl, hbb, hbn, hcell⟩ := sl_at hsl hne
  have hcw : w.cell? ⟨b, off, none⟩ = some (.int .u64 (mld l 0)) := hcell 0 (mld l 0) (get_mld (i := 0) (by omega))
  obtain ⟨x0, x1⟩ := ws_mld hws 0
  have t1 : (mld l 0).tmod 4294967296 = mld l 0 % 4294967296 := tmod_nonneg _ _ x0 (by omega)
  have t2 : IntKind.i64.wrap (mld l 0 % 4294967296) = mld l 0 % 4294967296 := wrapi64_id _ (by omega) (by omega)
  have t2' : IntKind.u64.wrap (mld l 0 % 4294967296) = mld l 0 % 4294967296 := wrapu64_id _ (by omega) (by omega)
  have t3 : item.tmod 3 = item % 3 := tmod_nonneg _ _ i0 (by omega)
  have t4 : IntKind.i64.wrap (item % 3) = item % 3 := wrapi64_id _ (by omega) (by omega)
  have t5 : wrap64 (item % 3 + 1) = item % 3 + 1 := wrap64_id _ (by omega) (by omega)
  have hl3 : lkAt [1, 2, 3] (item % 3 + 1) = item % 3 + 1 := by rw [lk123, if_pos (by omega)]
  have hi3 : itemOf (item % 3 + 1) = item % 3 + 1 := by unfold itemOf; rw [if_pos (by omega)]
  have hrun := run_push [1, 2, 3] l (item % 3 + 1) (by omega) hi3 (by rw [hl3]; omega)
  rw [hl3] at hrun
  have HR := Lib.hid hrun
  have kr : (1 : Int) ≤ item % 3 + 1 ∧ item % 3 + 1 ≤ 3 := by omega
  have v0 : mld (mput (mput l (item % 3 + 1) (mld l 0 % 4294967296)) 0 (wTurn (mld l 0) (item % 3 + 1))) 0 = wTurn (mld l 0) (item % 3 + 1) := mld_mput_same (by rw [mput_length]; omega) _
  have v1 : mld (mput (mput l (item % 3 + 1) (mld l 0 % 4294967296)) 0 (wTurn (mld l 0) (item % 3 + 1))) (item % 3 + 1) = mld l 0 % 4294967296 := by rw [mld_mput_ne _ _ _ _ (by omega), mld_mput_same (by omega)]
  have tk := wTurn_ok (mld l 0) (item % 3 + 1) (by omega) (by omega)
  have v2 : (wTurn (mld l 0) (item % 3 + 1)).tmod 4294967296 = item % 3 + 1 := by rw [tmod_nonneg _ _ tk.1 (by omega)]; exact wTurn_low _ _ (by omega) (by omega)
  have v3 : IntKind.i64.wrap (item % 3 + 1) = item % 3 + 1 := wrapi64_id _ (by omega) (by omega)
  have V0 := Lib.hid v0
  have V1 := Lib.hid v1
  clear hcell h1 h2 hrun hl3 hi3 v0 v1 tk hne
  go_enter Try.func4, Try.ntmps4
  go_wp2_with fail
  refine (awake9 w).mono ?_
  rintro e w1 ⟨rfl, b1⟩
  go_wp2_with fail
  refine (Links_c (A := []) _ _ _ (by simp) (sl_lits_int w1 [1, 2, 3])).mono ?_
  rintro e w2 ⟨rfl, L2, b2⟩
  have b02 := (b1.alloc b1.size (.cells #[.int .i64 1, .int .i64 2, .int .i64 3] 3)).trans (b2.mono (by have := b1.size; simp; omega))
  have z2 := b02.size
  obtain ⟨lb, hlb⟩ : ∃ lb, lb = (w1.alloc (.cells (([1, 2, 3] : List Int).map (Value.int .i64)).toArray 3)).heap.size := ⟨_, rfl⟩
  rw [← hlb] at L2 ⊢
  clear b1 b2 hlb
  go_wp2_with fail
  refine (New_c _ _ _ (sl_below SL.out b02) hl12).mono ?_
  rintro e w3 ⟨sb, g, rfl, hsb, hg, hlt, hltg, s3, b3⟩
  have b03 := b02.trans (b3.mono z2)
  have c3 := (b03.cell (p := ⟨b, off, none⟩) hbb).trans hcw
  have L3 := links_upd (S := []) (A' := [sb, g]) L2 (Upd.of_below b3) (by simp) (by simp <;> omega)
  clear b3 b02 hcw L2
  go_wp2_with fail
  refine (Pop_c lb 0 _).mono ?_
  rintro e w4 ⟨rfl, m4, z4, b4⟩
  have s4 := store_upd (S := []) s3 (Upd.of_below b4) (by simp) (by simp)
  have L4 := links_upd (S := []) (A' := [sb, g]) L3 (Upd.of_below b4) (by simp) (fun y hy => .inl hy)
  have b04 := b03.trans (b4.mono b03.size)
  clear m4 b4 c3 s3 L3 b03
  go_wp2_with fail
  refine (Push_c lb 0 _ _ (by omega) (by omega)).mono ?_
  rintro e w5 ⟨rfl, m5, z5, b5⟩
  have u5 := Upd.of_below (S := []) b5
  have B5 : Bun w5 sb g w4.heap.size lb l [1, 2, 3] 0 (pushM 0 (item % 3 + 1)) := ⟨store_upd s4 u5 (by simp) (by simp), m5, by simp <;> omega, hws, pushM_ok _ _, links_upd L4 u5 (by simp) (by simp <;> omega), by decide⟩
  have b05 := b04.trans (b5.mono b04.size)
  clear m5 u5 b5 b04 s4 L4
  go_wp2_with fail
  refine (whole_c _ _ _ _ _ _ _ _ _ B5).mono ?_
  rintro e w6 ⟨rfl, ⟨n6, B6⟩, u6⟩
  rw [HR.out] at B6 ⊢
  have b06 := Upd.below_from b05 u6 (by simp <;> omega)
  clear b05 u6 B5
  go_wp2_with fail
  refine (Tries_c _ _ _ _ B6.mach).mono ?_
  rintro e w7 ⟨rfl, hw⟩
  obtain rfl := hw.symm
  go_wp2_with fail
  refine (Step_k _ _ _ _ _ _ _ _ _ _ _ B6 rfl).mono ?_
  rintro e w8 ⟨rfl, B8, u8⟩
  have b08 := Upd.below_from b06 u8 (by simp <;> omega)
  clear b06 u8 B6
  go_wp2_with fail
  refine (Load_c _ _ _ _ _ _ B8.store).mono ?_
  rintro e w9 ⟨rfl, s9, u9⟩
  rw [V0.out]
  have b09 := Upd.below_from b08 u9 (by simp <;> omega)
  go_wp2_with fail
  refine (Load_c _ _ _ _ _ _ s9).mono ?_
  rintro e w10 ⟨rfl, s10, u10⟩
  rw [V1.out]
  have b10 := Upd.below_from b09 u10 (by simp <;> omega)
  go_wp2_with fail
  go_ret
  exact ⟨by simp, b10⟩

set_option maxRecDepth 100000 in
set_option maxHeartbeats 4000000 in
theorem first_pop0 (l : List Int) (a : Option Addr) (cap : Nat) (item : Int) (w : World) (hsl : Sl w [] .u64 (.slice a l.length cap) l) (hws : Ws l) (h1 : ¬ (40 : Int) < (l.length : Int)) (h2 : ¬ (l.length : Int) < 4) (hz : mld l 0 % 4294967296 = 0) :
    Calls Try.prog 4 #[.slice a l.length cap, .int .u32 item, .bool false] w fun e w' => e = .returned (.bool true) ∧ Below w.heap.size w w' := by
  have g1 : decide ((40 : Int) < (l.length : Int)) = false := by simpa using h1
  have g2 : decide ((l.length : Int) < (4 : Int)) = false := by simpa using h2
  have hl12 : l.length < 1000000000000 := by omega
  have hp0 : 0 < l.length := by omega
  have hne : l ≠ [] := by rintro rfl; simp at h2
  have SL := Lib.hid hsl
  obtain ⟨b, off, rfl, hbb, hbn, hcell⟩ := sl_at hsl hne
  have hcw : w.cell? ⟨b, off, none⟩ = some (.int .u64 (mld l 0)) := hcell 0 (mld l 0) (get_mld (i := 0) (by omega))
  obtain ⟨x0, x1⟩ := ws_mld hws 0
  have t1 : (mld l 0).tmod 4294967296 = mld l 0 % 4294967296 := tmod_nonneg _ _ x0 (by omega)
  have t2 : IntKind.i64.wrap (mld l 0 % 4294967296) = mld l 0 % 4294967296 := wrapi64_id _ (by omega) (by omega)
  have hrun := run_pop0 [1, 2, 3] l hz
  have HR := Lib.hid hrun
  have t3 : IntKind.i64.wrap 0 = 0 := wrapi64_id _ (by omega) (by omega)
  clear hcell h1 h2 hrun hne
  go_enter Try.func4, Try.ntmps4
  go_wp2_with fail
  refine (awake9 w).mono ?_
  rintro e w1 ⟨rfl, b1⟩
  go_wp2_with fail
  refine (Links_c (A := []) _ _ _ (by simp) (sl_lits_int w1 [1, 2, 3])).mono ?_
  rintro e w2 ⟨rfl, L2, b2⟩
  have b02 := (b1.alloc b1.size (.cells #[.int .i64 1, .int .i64 2, .int .i64 3] 3)).trans (b2.mono (by have := b1.size; simp; omega))
  have z2 := b02.size
  obtain ⟨lb, hlb⟩ : ∃ lb, lb = (w1.alloc (.cells (([1, 2, 3] : List Int).map (Value.int .i64)).toArray 3)).heap.size := ⟨_, rfl⟩
  rw [← hlb] at L2 ⊢
  clear b1 b2 hlb
  go_wp2_with fail
  refine (New_c _ _ _ (sl_below SL.out b02) hl12).mono ?_
  rintro e w3 ⟨sb, g, rfl, hsb, hg, hlt, hltg, s3, b3⟩
  have b03 := b02.trans (b3.mono z2)
  have c3 := (b03.cell (p := ⟨b, off, none⟩) hbb).trans hcw
  have L3 := links_upd (S := []) (A' := [sb, g]) L2 (Upd.of_below b3) (by simp) (by simp <;> omega)
  clear b3 b02 L2
  go_wp2_with fail
  refine (Pop_c lb 0 _).mono ?_
  rintro e w4 ⟨rfl, m4, z4, b4⟩
  have u4 := Upd.of_below (S := []) b4
  have B4 : Bun w4 sb g w3.heap.size lb l [1, 2, 3] 0 (popM 0) := ⟨store_upd s3 u4 (by simp) (by simp), m4, by simp <;> omega, hws, popM_ok _, links_upd L3 u4 (by simp) (by simp <;> omega), by decide⟩
  have b04 := b03.trans (b4.mono b03.size)
  clear m4 b4 c3 s3 L3 u4 b03
  go_wp2_with fail
  refine (whole_c _ _ _ _ _ _ _ _ _ B4).mono ?_
  rintro e w6 ⟨rfl, ⟨n6, B6⟩, u6⟩
  rw [HR.out] at B6 ⊢
  have b06 := Upd.below_from b04 u6 (by have := b04.size; simp <;> omega)
  clear u6 B4
  go_wp2_with fail
  refine (Tries_c _ _ _ _ B6.mach).mono ?_
  rintro e w7 ⟨rfl, hw⟩
  obtain rfl := hw.symm
  go_wp2_with fail
  refine (Step_k _ _ _ _ _ _ _ _ _ _ _ B6 rfl).mono ?_
  rintro e w8 ⟨rfl, B8, u8⟩
  have b08 := Upd.below_from b06 u8 (by have := b04.size; simp <;> omega)
  clear b06 u8 B6
  go_wp2_with fail
  refine (Load_c _ _ _ _ _ _ B8.store).mono ?_
  rintro e w9 ⟨rfl, s9, u9⟩
  have b09 := Upd.below_from b08 u9 (by have := b04.size; simp <;> omega)
  have c9 := (b09.cell (p := ⟨b, off, none⟩) hbb).trans hcw
  go_wp2_with fail
  go_ret
  exact ⟨by simp, b09⟩

set_option maxRecDepth 100000 in
set_option maxHeartbeats 4000000 in
theorem first_popIn (l : List Int) (a : Option Addr) (cap : Nat) (item : Int) (w : World) (hsl : Sl w [] .u64 (.slice a l.length cap) l) (hws : Ws l) (h1 : ¬ (40 : Int) < (l.length : Int)) (h2 : ¬ (l.length : Int) < 4) (hz : ¬ mld l 0 % 4294967296 = 0) (h3 : mld l 0 % 4294967296 ≤ 3) :
    Calls Try.prog 4 #[.slice a l.length cap, .int .u32 item, .bool false] w fun e w' => e = .returned (.bool true) ∧ Below w.heap.size w w' := by
  have g1 : decide ((40 : Int) < (l.length : Int)) = false := by simpa using h1
  have g2 : decide ((l.length : Int) < (4 : Int)) = false := by simpa using h2
  have hl12 : l.length < 1000000000000 := by omega
  have hp0 : 0 < l.length := by omega
  have hne : l ≠ [] := by rintro rfl; simp at h2
  have SL := Lib.hid hsl
  obtain ⟨b, off, rfl, hbb, hbn, hcell⟩ := sl_at hsl hne
  have hcw : w.cell? ⟨b, off, none⟩ = some (.int .u64 (mld l 0)) := hcell 0 (mld l 0) (get_mld (i := 0) (by omega))
  obtain ⟨x0, x1⟩ := ws_mld hws 0
  have t1 : (mld l 0).tmod 4294967296 = mld l 0 % 4294967296 := tmod_nonneg _ _ x0 (by omega)
  have t2 : IntKind.i64.wrap (mld l 0 % 4294967296) = mld l 0 % 4294967296 := wrapi64_id _ (by omega) (by omega)
  have hb0 : (mld l 0 % 4294967296 == 0) = false := by simpa using hz
  have hl3 : lkAt [1, 2, 3] (mld l 0 % 4294967296) = mld l 0 % 4294967296 := by rw [lk123, if_pos (by omega)]
  have hc2 := hcell (mld l 0 % 4294967296).toNat (mld l (mld l 0 % 4294967296)) (get_mld (by omega))
  obtain ⟨y0, y1⟩ := ws_mld hws (mld l 0 % 4294967296)
  have t6 : (mld l (mld l 0 % 4294967296)).tmod 4294967296 = mld l (mld l 0 % 4294967296) % 4294967296 := tmod_nonneg _ _ y0 (by omega)
  have i1 : 0 ≤ mld l 0 % 4294967296 := by omega
  have i2 : mld l 0 % 4294967296 < (l.length : Int) := by omega
  obtain ⟨lk, hlk⟩ : ∃ lk, lk = mld l (mld l 0 % 4294967296) % 4294967296 := ⟨_, rfl⟩
  rw [← hlk] at t6
  have hlk' : mld l (lkAt [1, 2, 3] (mld l 0 % 4294967296)) % 4294967296 = lk := by rw [hl3, hlk]
  have k0 : 0 ≤ lk ∧ lk < 4294967296 := by omega
  have hrun := run_pop [1, 2, 3] l (by omega) hz
  rw [hlk'] at hrun
  have HR := Lib.hid hrun
  have v0 : mld (mput l 0 (wTurn (mld l 0) lk)) 0 = wTurn (mld l 0) lk := mld_mput_same (by omega) _
  have tk := wTurn_ok (mld l 0) lk k0.1 k0.2
  have v2 : (wTurn (mld l 0) lk).tmod 4294967296 = lk := by rw [tmod_nonneg _ _ tk.1 (by omega)]; exact wTurn_low _ _ k0.1 k0.2
  have V0 := Lib.hid v0
  have LK := Lib.hid hlk
  clear hcell h1 h2 hrun hl3 v0 tk hne hz hlk hlk'
  go_enter Try.func4, Try.ntmps4
  go_wp2_with fail
  refine (awake9 w).mono ?_
  rintro e w1 ⟨rfl, b1⟩
  go_wp2_with fail
  refine (Links_c (A := []) _ _ _ (by simp) (sl_lits_int w1 [1, 2, 3])).mono ?_
  rintro e w2 ⟨rfl, L2, b2⟩
  have b02 := (b1.alloc b1.size (.cells #[.int .i64 1, .int .i64 2, .int .i64 3] 3)).trans (b2.mono (by have := b1.size; simp; omega))
  have z2 := b02.size
  obtain ⟨lb, hlb⟩ : ∃ lb, lb = (w1.alloc (.cells (([1, 2, 3] : List Int).map (Value.int .i64)).toArray 3)).heap.size := ⟨_, rfl⟩
  rw [← hlb] at L2 ⊢
  clear b1 b2 hlb
  go_wp2_with fail
  refine (New_c _ _ _ (sl_below SL.out b02) hl12).mono ?_
  rintro e w3 ⟨sb, g, rfl, hsb, hg, hlt, hltg, s3, b3⟩
  have b03 := b02.trans (b3.mono z2)
  have c3 := (b03.cell (p := ⟨b, off, none⟩) hbb).trans hcw
  have L3 := links_upd (S := []) (A' := [sb, g]) L2 (Upd.of_below b3) (by simp) (by simp <;> omega)
  clear b3 b02 L2
  go_wp2_with fail
  refine (Pop_c lb 0 _).mono ?_
  rintro e w4 ⟨rfl, m4, z4, b4⟩
  have u4 := Upd.of_below (S := []) b4
  have B4 : Bun w4 sb g w3.heap.size lb l [1, 2, 3] 0 (popM 0) := ⟨store_upd s3 u4 (by simp) (by simp), m4, by simp <;> omega, hws, popM_ok _, links_upd L3 u4 (by simp) (by simp <;> omega), by decide⟩
  have b04 := b03.trans (b4.mono b03.size)
  clear m4 b4 c3 s3 L3 u4 b03
  go_wp2_with fail
  refine (whole_c _ _ _ _ _ _ _ _ _ B4).mono ?_
  rintro e w6 ⟨rfl, ⟨n6, B6⟩, u6⟩
  rw [HR.out] at B6 ⊢
  have b06 := Upd.below_from b04 u6 (by have := b04.size; simp <;> omega)
  clear u6 B4
  go_wp2_with fail
  refine (Tries_c _ _ _ _ B6.mach).mono ?_
  rintro e w7 ⟨rfl, hw⟩
  obtain rfl := hw.symm
  go_wp2_with fail
  refine (Step_k _ _ _ _ _ _ _ _ _ _ _ B6 rfl).mono ?_
  rintro e w8 ⟨rfl, B8, u8⟩
  have b08 := Upd.below_from b06 u8 (by have := b04.size; simp <;> omega)
  clear b06 u8 B6
  go_wp2_with fail
  refine (Load_c _ _ _ _ _ _ B8.store).mono ?_
  rintro e w9 ⟨rfl, s9, u9⟩
  have b09 := Upd.below_from b08 u9 (by have := b04.size; simp <;> omega)
  have c9 := (b09.cell (p := ⟨b, off, none⟩) hbb).trans hcw
  rw [V0.out]
  have c10 := (b09.cell (p := ⟨b, off + (mld l 0 % 4294967296).toNat, none⟩) hbb).trans hc2
  go_wp2_with fail
  go_ret
  exact ⟨by simp, b09⟩

set_option maxRecDepth 100000 in
set_option maxHeartbeats 4000000 in
theorem first_popOut (l : List Int) (a : Option Addr) (cap : Nat) (item : Int) (w : World) (hsl : Sl w [] .u64 (.slice a l.length cap) l) (hws : Ws l) (h1 : ¬ (40 : Int) < (l.length : Int)) (h2 : ¬ (l.length : Int) < 4) (hz : ¬ mld l 0 % 4294967296 = 0) (h3 : ¬ mld l 0 % 4294967296 ≤ 3) :
    Calls Try.prog 4 #[.slice a l.length cap, .int .u32 item, .bool false] w fun e w' => e = .returned (.bool true) ∧ Below w.heap.size w w' := by
  have g1 : decide ((40 : Int) < (l.length : Int)) = false := by simpa using h1
  have g2 : decide ((l.length : Int) < (4 : Int)) = false := by simpa using h2
  have hl12 : l.length < 1000000000000 := by omega
  have hp0 : 0 < l.length := by omega
  have hne : l ≠ [] := by rintro rfl; simp at h2
  have SL := Lib.hid hsl
  obtain ⟨b, off, rfl, hbb, hbn, hcell⟩ := sl_at hsl hne
  have hcw : w.cell? ⟨b, off, none⟩ = some (.int .u64 (mld l 0)) := hcell 0 (mld l 0) (get_mld (i := 0) (by omega))
  obtain ⟨x0, x1⟩ := ws_mld hws 0
  have t1 : (mld l 0).tmod 4294967296 = mld l 0 % 4294967296 := tmod_nonneg _ _ x0 (by omega)
  have t2 : IntKind.i64.wrap (mld l 0 % 4294967296) = mld l 0 % 4294967296 := wrapi64_id _ (by omega) (by omega)
  have hb0 : (mld l 0 % 4294967296 == 0) = false := by simpa using hz
  have hl3 : lkAt [1, 2, 3] (mld l 0 % 4294967296) = -1 := by rw [lk123, if_neg (by omega)]
  have g3 : decide (mld l 0 % 4294967296 ≤ 3) = false := by simp; omega
  obtain ⟨lk, hlk⟩ : ∃ lk : Int, lk = 0 := ⟨_, rfl⟩
  have hlk' : mld l (lkAt [1, 2, 3] (mld l 0 % 4294967296)) % 4294967296 = lk := by rw [hl3, hlk, mld_out (by omega)]; rfl
  have k0 : 0 ≤ lk ∧ lk < 4294967296 := by omega
  have hrun := run_pop [1, 2, 3] l (by omega) hz
  rw [hlk'] at hrun
  have HR := Lib.hid hrun
  have v0 : mld (mput l 0 (wTurn (mld l 0) lk)) 0 = wTurn (mld l 0) lk := mld_mput_same (by omega) _
  have tk := wTurn_ok (mld l 0) lk k0.1 k0.2
  have v2 : (wTurn (mld l 0) lk).tmod 4294967296 = lk := by rw [tmod_nonneg _ _ tk.1 (by omega)]; exact wTurn_low _ _ k0.1 k0.2
  have V0 := Lib.hid v0
  have LK := Lib.hid hlk
  clear hcell h1 h2 hrun hl3 v0 tk hne hz hlk hlk'
  go_enter Try.func4, Try.ntmps4
  go_wp2_with fail
  refine (awake9 w).mono ?_
  rintro e w1 ⟨rfl, b1⟩
  go_wp2_with fail
  refine (Links_c (A := []) _ _ _ (by simp) (sl_lits_int w1 [1, 2, 3])).mono ?_
  rintro e w2 ⟨rfl, L2, b2⟩
  have b02 := (b1.alloc b1.size (.cells #[.int .i64 1, .int .i64 2, .int .i64 3] 3)).trans (b2.mono (by have := b1.size; simp; omega))
  have z2 := b02.size
  obtain ⟨lb, hlb⟩ : ∃ lb, lb = (w1.alloc (.cells (([1, 2, 3] : List Int).map (Value.int .i64)).toArray 3)).heap.size := ⟨_, rfl⟩
  rw [← hlb] at L2 ⊢
  clear b1 b2 hlb
  go_wp2_with fail
  refine (New_c _ _ _ (sl_below SL.out b02) hl12).mono ?_
  rintro e w3 ⟨sb, g, rfl, hsb, hg, hlt, hltg, s3, b3⟩
  have b03 := b02.trans (b3.mono z2)
  have c3 := (b03.cell (p := ⟨b, off, none⟩) hbb).trans hcw
  have L3 := links_upd (S := []) (A' := [sb, g]) L2 (Upd.of_below b3) (by simp) (by simp <;> omega)
  clear b3 b02 L2
  go_wp2_with fail
  refine (Pop_c lb 0 _).mono ?_
  rintro e w4 ⟨rfl, m4, z4, b4⟩
  have u4 := Upd.of_below (S := []) b4
  have B4 : Bun w4 sb g w3.heap.size lb l [1, 2, 3] 0 (popM 0) := ⟨store_upd s3 u4 (by simp) (by simp), m4, by simp <;> omega, hws, popM_ok _, links_upd L3 u4 (by simp) (by simp <;> omega), by decide⟩
  have b04 := b03.trans (b4.mono b03.size)
  clear m4 b4 c3 s3 L3 u4 b03
  go_wp2_with fail
  refine (whole_c _ _ _ _ _ _ _ _ _ B4).mono ?_
  rintro e w6 ⟨rfl, ⟨n6, B6⟩, u6⟩
  rw [HR.out] at B6 ⊢
  have b06 := Upd.below_from b04 u6 (by have := b04.size; simp <;> omega)
  clear u6 B4
  go_wp2_with fail
  refine (Tries_c _ _ _ _ B6.mach).mono ?_
  rintro e w7 ⟨rfl, hw⟩
  obtain rfl := hw.symm
  go_wp2_with fail
  refine (Step_k _ _ _ _ _ _ _ _ _ _ _ B6 rfl).mono ?_
  rintro e w8 ⟨rfl, B8, u8⟩
  have b08 := Upd.below_from b06 u8 (by have := b04.size; simp <;> omega)
  clear b06 u8 B6
  go_wp2_with fail
  refine (Load_c _ _ _ _ _ _ B8.store).mono ?_
  rintro e w9 ⟨rfl, s9, u9⟩
  have b09 := Upd.below_from b08 u9 (by have := b04.size; simp <;> omega)
  have c9 := (b09.cell (p := ⟨b, off, none⟩) hbb).trans hcw
  rw [V0.out]
  have L0 := LK.out
  subst L0
  go_wp2_with fail
  go_ret
  exact ⟨by simp, b09⟩

set_option maxRecDepth 100000 in
theorem first_other (l : List Int) (a : Option Addr) (cap : Nat) (item : Int) (bp : Bool) (w : World) (h : (40 : Int) < (l.length : Int) ∨ (l.length : Int) < 4) :
    Calls Try.prog 4 #[.slice a l.length cap, .int .u32 item, .bool bp] w fun e w' => e = .returned (.bool true) ∧ Below w.heap.size w w' := by
  by_cases h1 : (40 : Int) < (l.length : Int)
  · clear h
    go_enter Try.func4, Try.ntmps4
    go_wp2_with fail
    refine (awake9 w).mono ?_
    rintro e w1 ⟨rfl, b1⟩
    go_wp2_with fail
    go_ret
    exact ⟨rfl, b1⟩
  · have h2 := h.resolve_left h1
    have g1 : decide ((40 : Int) < (l.length : Int)) = false := by simpa using h1
    clear h
    go_enter Try.func4, Try.ntmps4
    go_wp2_with fail
    refine (awake9 w).mono ?_
    rintro e w1 ⟨rfl, b1⟩
    go_wp2_with fail
    go_ret
    exact ⟨rfl, b1⟩

theorem walk_StackFirst (a : Option Addr) (len cap : Nat) (zs : List Int) (item : Int) (bp : Bool) (w : World) (hr : IsRow .u64 w a len cap zs) (i0 : 0 ≤ item) (i1 : item < 4294967296) :
    Calls Try.prog 4 #[.slice a len cap, .int .u32 item, .bool bp] w fun e w' => e = .returned (.bool true) ∧ Below w.heap.size w w' := by
  obtain ⟨l, rfl, hsl, hwf⟩ := row_opens hr
  have hws := ws_of_wf hwf
  by_cases h1 : (40 : Int) < (l.length : Int)
  · exact first_other l a cap item bp w (.inl h1)
  by_cases h2 : (l.length : Int) < 4
  · exact first_other l a cap item bp w (.inr h2)
  cases bp with
  | true => exact first_pushW l a cap item w hsl hws h1 h2 i0 i1
  | false =>
    by_cases hz : mld l 0 % 4294967296 = 0
    · exact first_pop0 l a cap item w hsl hws h1 h2 hz
    · by_cases h3 : mld l 0 % 4294967296 ≤ 3
      · exact first_popIn l a cap item w hsl hws h1 h2 hz h3
      · exact first_popOut l a cap item w hsl hws h1 h2 hz h3

end Go.Proofs.Ytaciapjohakpgaa
