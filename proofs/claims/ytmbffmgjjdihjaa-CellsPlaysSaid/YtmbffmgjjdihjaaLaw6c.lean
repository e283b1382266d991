/- The walks of CellsApart and CellsOne: each answers true, and nothing that was there is changed. No condition but that the arguments can be read. -/
import Derived.Test.YtmbffmgjjdihjaaLaw6b
set_option linter.unusedVariables false
namespace Go.Proofs.Ytmbffmgjjdihjaa
open Go.ChangeShapes Go.WideShapes Go.ChangeAt Go.RowKit

theorem mod_fact (t n : Nat) (h : 0 < n) : ∃ idx : Nat, (t : Int) % (n : Int) = (idx : Int) ∧ idx < n := ⟨t % n, by rw [← Int.natCast_emod], Nat.mod_lt _ h⟩

theorem walk_CellsApart (a : Option Addr) (len cap : Nat) (zs : List Int) (t x : Int) (w : World) (hr : IsRow .u64 w a len cap zs) (t0 : 0 ≤ t) (t1 : t < 256) :
    Calls Try.prog 7 #[.slice a len cap, .int .u8 t, .int .u64 x] w fun e w' => e = .returned (.bool true) ∧ Below w.heap.size w w' := by
  obtain ⟨tn, rfl⟩ := Int.eq_ofNat_of_zero_le t0
  obtain ⟨l, rfl, hsl, _⟩ := row_opens hr
  clear hr
  by_cases hbig : (200 : Int) < (l.length : Int)
  · go_enter Try.func7, Try.ntmps7
    go_wp2_with (go_at_call 9; refine (awake6 _).mono ?_ ; rintro e w0 ⟨rfl, b0⟩)
    go_ret
    exact ⟨rfl, b0⟩
  have hbig' : decide ((200 : Int) < (l.length : Int)) = false := by simpa using hbig
  by_cases hz : l = []
  · subst hz
    go_enter Try.func7, Try.ntmps7
    go_wp2_with (go_at_call 9; refine (awake6 _).mono ?_ ; rintro e w0 ⟨rfl, b0⟩)
    go_ret
    exact ⟨rfl, b0⟩
  have hpos : 0 < l.length := List.length_pos_iff.2 hz
  have hz' : ((l.length : Int) == 0) = false := by rw [beq_eq_false_iff_ne]; omega
  have hl12 : l.length < 1000000000000 := by omega
  obtain ⟨idx, hi, hi1⟩ := mod_fact tn l.length hpos
  obtain ⟨b, off, rfl, _⟩ := sl_at hsl hz
  have hz2 : ¬ l = [] := hz
  have Z := Lib.hid hz
  clear hz hz2
  go_enter Try.func7, Try.ntmps7
  go_wp2_with fail
  refine (awake6 _).mono ?_
  rintro e w0 ⟨rfl, b0⟩
  have hsl0 := Lib.hid (sl_below hsl b0)
  clear hsl
  go_wp2_with (at_builtin; refine wpl_append_all rfl (.tmp 24) (.tmp 25) rfl el_u64 (by decide) w0.heap.size (.slice none 0 0) [] l rfl (ownI_nil _ _ _ _) _ rfl hsl0.out ⟨_, _, _, rfl⟩ (by simpa using hl12) (Nat.le_refl _) ?_; intro v1 w1 hown hgrow)
  have b1 := below_grown_own (Below.refl _ _) (World.ownsRow_nil _ _ 22 1) hgrow (Nat.le_refl _)
  have m1 := sl_of_new (A := []) (slNew_of_own hown) (by simp)
  rw [List.nil_append] at m1
  clear hown hgrow
  have l1 := sl_below hsl0.out b1
  have b01 := b0.trans (b1.mono b0.size)
  clear b0 b1 hsl0
  refine (New_c _ _ _ m1 hl12).mono ?_
  rintro e w2 ⟨sb, g, rfl, hsb, hg, hlt, hltg, s2, b2⟩
  have q1 : w.heap.size ≤ sb := by have := b01.size; omega
  have q2 : w.heap.size ≤ g := by have := b01.size; omega
  have m2 : Sl w2 [sb, g] .u64 v1 l := sl_upd (S := []) m1 (Upd.of_below b2) (by simp) (by simp; omega)
  have l2 : Sl w2 [sb, g] .u64 (.slice (some ⟨b, off, none⟩) l.length cap) l := sl_upd (S := []) l1 (Upd.of_below b2) (by simp) (by simp; omega)
  have b02 := b01.trans (b2.mono b01.size)
  clear b01 b2 m1 l1
  go_wp2_with fail
  refine (All_c _ _ _ _ _ s2 hl12).mono ?_
  rintro e w3 ⟨v3, rfl, hv3, b3⟩
  have s3 := store_upd (S := []) s2 (Upd.of_below b3) (by simp) (by simp)
  have m3 := sl_below m2 b3
  have l3 := sl_below l2 b3
  have x3 := sl_of_new (A := [sb, g]) hv3 (by simp; omega)
  have b03 := b02.trans (b3.mono b02.size)
  clear hv3 b02 s2 m2 l2 b3
  go_wp2_with fail
  refine (Put_c _ _ _ _ _ _ _ s3).mono ?_
  rintro e w4 ⟨rfl, s4, u4⟩
  have r1 : 0 ≤ (idx : Int) ∧ (idx : Int) < l.length := by omega
  rw [mput_in r1, Int.toNat_natCast] at s4
  have m4 := sl_upd (A' := [sb, g]) m3 u4 (fun x h => .inl h) (fun x h => .inl h)
  have l4 := sl_upd (A' := [sb, g]) l3 u4 (fun x h => .inl h) (fun x h => .inl h)
  have x4 := sl_upd (A' := [sb, g]) x3 u4 (fun x h => .inl h) (fun x h => .inl h)
  have b04 := Upd.below_from b03 u4 (by simp; omega)
  clear m3 l3 x3 s3 u4 b03
  go_wp2_with fail
  refine (All_c _ _ _ _ _ s4 (by rw [List.length_set]; exact hl12)).mono ?_
  rintro e w5 ⟨v5, rfl, hv5, b5⟩
  have s5 := store_upd (S := []) s4 (Upd.of_below b5) (by simp) (by simp)
  have m5 := sl_below m4 b5
  have l5 := sl_below l4 b5
  have x5 := sl_below x4 b5
  have y5 := sl_of_new (A := [sb, g]) hv5 (by have := s4.choose_spec.choose_spec.1; have := store_lt s4; simp; have := this.2 (by simp [Z.out]); omega)
  have b05 := b04.trans (b5.mono b04.size)
  clear hv5 b04 s4 m4 l4 x4 b5
  go_wp2_with fail
  refine (RSame_c _ _ _ _ _ m5 l5 hl12).mono ?_
  rintro e w6 ⟨rfl, dn, rfl⟩
  have f1 : (l == l) = true := by simp
  go_wp2_with fail
  refine (RSame_c _ _ _ _ _ (sl_drewN x5 _) (sl_drewN l5 _) hl12).mono ?_
  rintro e w7 ⟨rfl, dn2, rfl⟩
  obtain ⟨a5, c5, rfl, h5, hy5⟩ := y5
  obtain ⟨b6, off6, rfl, _, _, hc6⟩ := hy5.resolve_left (by simp [Z.out])
  have cc := hc6 idx (by simpa using hi1)
  rw [List.getElem_set_self] at cc
  have hlen2 : ((l.set idx x).length : Int) = (l.length : Int) := by simp
  clear hc6 hy5 h5
  have G := Lib.hid (show mld (l.set idx x) idx = x by rw [mld_in (by simpa using r1)]; simp [List.getD, hi1])
  clear r1
  go_wp2_with fail
  refine (Load_c _ _ _ _ _ _ (store_drewN s5 _)).mono ?_
  rintro e w8 ⟨rfl, s8, u8⟩
  have G2 := G.out
  go_wp2_with fail
  go_ret
  exact ⟨rfl, Upd.below_from (below_drewN b05 _) u8 (by simp; omega)⟩

theorem mput_diff (l : List Int) (at_ v : Int) (i : Nat) (h : ¬ (mput l at_ v)[i]? = l[i]?) : (i : Int) = at_ := by
  unfold mput at h
  split at h
  · rename_i hr
    by_cases e : at_.toNat = i
    · omega
    · rw [List.getElem?_set_ne e] at h
      exact absurd rfl h
  · exact absurd rfl h

theorem one_ways (l : List Int) (d at_ old x : Int) (d0 : 0 ≤ d) : ∃ (c : Bool) (l' : List Int), mdone l d at_ old x = l' ∧ l'.length = l.length ∧ (∀ i : Nat, ¬ l'[i]? = l[i]? → c = true ∧ (i : Int) = at_) ∧
    ((d = 0 ∧ c = false) ∨ (d = 1 ∧ c = true) ∨ (d = 2 ∧ mswapped l at_ old = c) ∨ (2 < d ∧ c = true)) := by
  by_cases h0 : d = 0
  · exact ⟨false, l, by simp [mdone, h0], rfl, fun i h => absurd rfl h, .inl ⟨h0, rfl⟩⟩
  by_cases h1 : d = 1
  · exact ⟨true, mput l at_ x, by simp [mdone, h1], mput_length _ _ _, fun i h => ⟨rfl, mput_diff _ _ _ _ h⟩, .inr (.inl ⟨h1, rfl⟩)⟩
  by_cases h2 : d = 2
  · refine ⟨mswapped l at_ old, mswap l at_ old x, by simp [mdone, h2], ?_, fun i h => ?_, .inr (.inr (.inl ⟨h2, rfl⟩))⟩
    · unfold mswap; split
      · exact mput_length _ _ _
      · rfl
    · unfold mswap at h
      split at h
      · rename_i hs; exact ⟨hs, mput_diff _ _ _ _ h⟩
      · exact absurd rfl h
  · exact ⟨true, madd l at_ x, by unfold mdone; rw [if_neg h0, if_neg h1, if_neg h2], mput_length _ _ _, fun i h => ⟨rfl, mput_diff _ _ _ _ h⟩, .inr (.inr (.inr ⟨by omega, rfl⟩))⟩

theorem one_0 (l : List Int) (at_ old x : Int) : mdone l 0 at_ old x = l := rfl
theorem one_1 (l : List Int) (at_ old x : Int) : mdone l 1 at_ old x = mput l at_ x := rfl
theorem one_2 (l : List Int) (at_ old x : Int) : mdone l 2 at_ old x = mswap l at_ old x := rfl
theorem one_3 (l : List Int) (d at_ old x : Int) (h : 2 < d) : mdone l d at_ old x = madd l at_ x := by unfold mdone; rw [if_neg (by omega), if_neg (by omega), if_neg (by omega)]

set_option maxHeartbeats 1000000 in
theorem walk_CellsOne0 (l : List Int) (a : Option Addr) (cap : Nat) (d at_ old x : Int) (w : World) (hsl : Sl w [] .u64 (.slice a l.length cap) l) (d0 : 0 ≤ d) (d1 : d < 256) (hbig : ¬ (200 : Int) < (l.length : Int)) (c : Bool) (l' : List Int) (hl' : mdone l d at_ old x = l') (hlen' : l'.length = l.length) (hdiff : ∀ i : Nat, ¬ l'[i]? = l[i]? → c = true ∧ (i : Int) = at_) (hw : d = 0 ∧ c = false) :
    Calls Try.prog 6 #[.slice a l.length cap, .agg #[.int .u8 d, .int .i64 at_, .int .u64 old, .int .u64 x]] w fun e w' => e = .returned (.bool true) ∧ Below w.heap.size w w' := by
  obtain ⟨rfl, rfl⟩ := hw
  have nb : Below w.heap.size w (w.alloc (.cells #[.int .u8 0, .int .i64 at_, .int .u64 old, .int .u64 x] 35)) := (Below.refl _ _).alloc (Nat.le_refl _) _
  have hbig' : decide ((200 : Int) < (l.length : Int)) = false := by simpa using hbig
  have hl12 : l.length < 1000000000000 := by omega
  obtain ⟨w9, hw9⟩ : ∃ w9, w9 = w.alloc (.cells #[.int .u8 0, .int .i64 at_, .int .u64 old, .int .u64 x] 35) := ⟨_, rfl⟩
  have HA : w9.heap[w.heap.size]? = some (.cells #[.int .u8 0, .int .i64 at_, .int .u64 old, .int .u64 x] 35 (0, 0)) := by
    rw [hw9]; exact blk_new w _ 0
  have z9 : w9.heap.size = w.heap.size + 1 := by rw [hw9]; simp
  have W9 := Lib.hid hw9
  rw [← hw9] at nb
  have Z9 := Lib.hid z9
  clear hw9 z9
  have HL := Lib.hid hl'
  have HN := Lib.hid hlen'
  have HD := Lib.hid hdiff
  clear hl' hlen' hdiff
  go_enter Try.func6, Try.ntmps6
  go_wp2_with fail
  rw [← W9.out]
  clear W9
  refine (awake6 w9).mono ?_
  rintro e w0 ⟨rfl, b0⟩
  have A0 := (b0.block _ (blk_lt HA)).trans HA
  have lA := blk_lt A0
  have b1 := nb.trans (b0.mono (by have := Z9.out; omega))
  have hsl0 := sl_below hsl b1
  clear HA nb b0 hsl Z9
  go_wp2_with fail
  refine (New_c _ _ _ hsl0 hl12).mono ?_
  rintro e w1 ⟨sb, g, rfl, hsb, hg, hlt, hltg, s1, b2⟩
  have A1 := (b2.block _ lA).trans A0
  have b01 := b1.trans (b2.mono (by omega))
  have q1 : w.heap.size ≤ sb := by omega
  have q2 : w.heap.size ≤ g := by omega
  have hnA : w.heap.size ∉ [sb, g] := notin2 (by omega) (by omega)
  have hsl1 : Sl w1 [sb, g] .u64 (.slice a l.length cap) l := sl_upd (S := []) hsl0 (Upd.of_below b2) (by simp) (by simp; omega)
  clear A0 lA b1 b2 hsl0 hsb hg hlt hltg
  obtain ⟨ca0, ca1, ca2, ca3, fa⟩ := row4 A1
  have wz : wrap64 (0 + 1) = 1 := wrap64_id _ (by decide) (by decide)
  have WZ := Lib.hid wz
  clear wz
  rw [one_0] at HL
  go_wp2_with (first | (go_at_call 12; refine (Load_c _ _ _ _ _ _ s1).mono ?_; rintro e w2 ⟨rfl, s2, u2⟩; rw [HL.out, WZ.out] at s2) | (go_at_call 16; refine (Put_c _ _ _ _ _ _ _ s1).mono ?_; rintro e w2 ⟨rfl, s2, u2⟩; rw [HL.out, WZ.out] at s2) | (go_at_call 11; refine (Swap_c _ _ _ _ _ _ _ _ s1).mono ?_; rintro e w2 ⟨rfl, s2, u2⟩; rw [HL.out, WZ.out] at s2) | (go_at_call 14; refine (Add_c _ _ _ _ _ _ _ s1).mono ?_; rintro e w2 ⟨rfl, s2, u2⟩; rw [HL.out, WZ.out] at s2))
  have A2 := u2.blk A1 hnA
  clear ca0 ca1 ca2 ca3 fa A1 s1
  have hsl2 : Sl w2 [sb, g] .u64 (.slice a l.length cap) l := sl_upd hsl1 u2 (fun x h => .inl h) (fun x h => .inl h)
  have b02 := Upd.below_from b01 u2 (by simp; omega)
  refine (All_c _ _ _ _ _ s2 (by rw [HN.out]; exact hl12)).mono ?_
  rintro e w3 ⟨v, rfl, hv, b3⟩
  have A3 := (b3.block _ (blk_lt A2)).trans A2
  have s3 := store_upd (S := []) s2 (Upd.of_below b3) (by simp) (by simp)
  have hsl3 := Lib.hid (sl_below hsl2 b3)
  have b03 := b02.trans (b3.mono b02.size)
  have x3 := sl_of_new (A := []) hv (by simp)
  obtain ⟨a', c', rfl, _, _⟩ := id x3
  have X3 := Lib.hid x3
  clear A2 s2 hsl1 hsl2 b01 b02 b3 hv u2 x3
  obtain ⟨ca0, ca1, ca2, ca3, fa⟩ := row4 A3
  have hle1 : (l'.length : Int) ≤ (l.length : Int) := by rw [HN.out]; omega
  have hle2 : (l.length : Int) ≤ (l'.length : Int) := by rw [HN.out]; omega
  have heq : ((l'.length : Int) == (l.length : Int)) = true := by rw [HN.out]; simp
  clear ca0 ca2 ca3 fa
  go_wp2_with fail
  go_loopw [9] (fun i wr => ∃ k : Nat, k ≤ l.length ∧ i = .int .i64 k ∧ ∃ m, wr = w3.drewN m) (fun i _ => l.length - (intOf i).toNat)
  case atStart => exact ⟨0, Nat.zero_le _, rfl, 0, rfl⟩
  case round =>
    obtain ⟨k, hk, rfl, m, rfl⟩ := hrel
    by_cases hlt : k < l.length
    · have hlt2 : k < l'.length := by rw [HN.out]; exact hlt
      obtain ⟨b, off, rfl, _, _, hc1⟩ := sl_at hsl3.out (by rintro rfl; simp at hlt)
      obtain ⟨b', off', rfl, _, _, hc2⟩ := sl_at X3.out (by rintro rfl; simp at hlt2)
      have d1 := hc1 k l[k] (by simp [hlt])
      have d2 := hc2 k l'[k] (by simp [hlt2])
      have HDk := HD.out k
      simp only [List.getElem?_eq_getElem hlt, List.getElem?_eq_getElem hlt2, Option.some.injEq] at HDk
      generalize l[k] = y at *
      generalize l'[k] = z at *
      clear hc1 hc2
      have n0 : decide ((l'.length : Int) ≤ (k : Int)) = false := by simp; omega
      have n0' : decide (l'.length ≤ k) = false := by simp; omega
      have i1 : (k : Int) < (l.length : Int) := by omega
      have i2 : (k : Int) < (l'.length : Int) := by omega
      by_cases hyz : z = y
      · have hb1 : (z != y) = false := by simpa using hyz
        clear hyz HDk
        go_wp2_with fail
        go_quiet (fail)
        go_wp2_with fail
        go_roundw
        case rel => exact ⟨k + 1, by omega, by go_num, _, rfl⟩
        case measure => simp [intOf]; omega
      · obtain ⟨hcc, hka⟩ := HDk hyz
        cases hcc
    · have n0 : ¬ (k : Int) < (l.length : Int) := by omega
      go_wp2_with (go_at_call 22; refine (Count_c _ _ _ _ _ (store_drewN s3 _)).mono ?_; rintro e w4 ⟨rfl, rfl⟩)
      go_ret
      exact ⟨rfl, below_drewN b03 _⟩

set_option maxHeartbeats 1000000 in
theorem walk_CellsOne1 (l : List Int) (a : Option Addr) (cap : Nat) (d at_ old x : Int) (w : World) (hsl : Sl w [] .u64 (.slice a l.length cap) l) (d0 : 0 ≤ d) (d1 : d < 256) (hbig : ¬ (200 : Int) < (l.length : Int)) (c : Bool) (l' : List Int) (hl' : mdone l d at_ old x = l') (hlen' : l'.length = l.length) (hdiff : ∀ i : Nat, ¬ l'[i]? = l[i]? → c = true ∧ (i : Int) = at_) (hw : d = 1 ∧ c = true) :
    Calls Try.prog 6 #[.slice a l.length cap, .agg #[.int .u8 d, .int .i64 at_, .int .u64 old, .int .u64 x]] w fun e w' => e = .returned (.bool true) ∧ Below w.heap.size w w' := by
  obtain ⟨rfl, rfl⟩ := hw
  have nb : Below w.heap.size w (w.alloc (.cells #[.int .u8 1, .int .i64 at_, .int .u64 old, .int .u64 x] 35)) := (Below.refl _ _).alloc (Nat.le_refl _) _
  have hbig' : decide ((200 : Int) < (l.length : Int)) = false := by simpa using hbig
  have hl12 : l.length < 1000000000000 := by omega
  obtain ⟨w9, hw9⟩ : ∃ w9, w9 = w.alloc (.cells #[.int .u8 1, .int .i64 at_, .int .u64 old, .int .u64 x] 35) := ⟨_, rfl⟩
  have HA : w9.heap[w.heap.size]? = some (.cells #[.int .u8 1, .int .i64 at_, .int .u64 old, .int .u64 x] 35 (0, 0)) := by
    rw [hw9]; exact blk_new w _ 0
  have z9 : w9.heap.size = w.heap.size + 1 := by rw [hw9]; simp
  have W9 := Lib.hid hw9
  rw [← hw9] at nb
  have Z9 := Lib.hid z9
  clear hw9 z9
  have HL := Lib.hid hl'
  have HN := Lib.hid hlen'
  have HD := Lib.hid hdiff
  clear hl' hlen' hdiff
  go_enter Try.func6, Try.ntmps6
  go_wp2_with fail
  rw [← W9.out]
  clear W9
  refine (awake6 w9).mono ?_
  rintro e w0 ⟨rfl, b0⟩
  have A0 := (b0.block _ (blk_lt HA)).trans HA
  have lA := blk_lt A0
  have b1 := nb.trans (b0.mono (by have := Z9.out; omega))
  have hsl0 := sl_below hsl b1
  clear HA nb b0 hsl Z9
  go_wp2_with fail
  refine (New_c _ _ _ hsl0 hl12).mono ?_
  rintro e w1 ⟨sb, g, rfl, hsb, hg, hlt, hltg, s1, b2⟩
  have A1 := (b2.block _ lA).trans A0
  have b01 := b1.trans (b2.mono (by omega))
  have q1 : w.heap.size ≤ sb := by omega
  have q2 : w.heap.size ≤ g := by omega
  have hnA : w.heap.size ∉ [sb, g] := notin2 (by omega) (by omega)
  have hsl1 : Sl w1 [sb, g] .u64 (.slice a l.length cap) l := sl_upd (S := []) hsl0 (Upd.of_below b2) (by simp) (by simp; omega)
  clear A0 lA b1 b2 hsl0 hsb hg hlt hltg
  obtain ⟨ca0, ca1, ca2, ca3, fa⟩ := row4 A1
  have wz : wrap64 (0 + 1) = 1 := wrap64_id _ (by decide) (by decide)
  have WZ := Lib.hid wz
  clear wz
  rw [one_1] at HL
  go_wp2_with (first | (go_at_call 12; refine (Load_c _ _ _ _ _ _ s1).mono ?_; rintro e w2 ⟨rfl, s2, u2⟩; rw [HL.out, WZ.out] at s2) | (go_at_call 16; refine (Put_c _ _ _ _ _ _ _ s1).mono ?_; rintro e w2 ⟨rfl, s2, u2⟩; rw [HL.out, WZ.out] at s2) | (go_at_call 11; refine (Swap_c _ _ _ _ _ _ _ _ s1).mono ?_; rintro e w2 ⟨rfl, s2, u2⟩; rw [HL.out, WZ.out] at s2) | (go_at_call 14; refine (Add_c _ _ _ _ _ _ _ s1).mono ?_; rintro e w2 ⟨rfl, s2, u2⟩; rw [HL.out, WZ.out] at s2))
  have A2 := u2.blk A1 hnA
  clear ca0 ca1 ca2 ca3 fa A1 s1
  have hsl2 : Sl w2 [sb, g] .u64 (.slice a l.length cap) l := sl_upd hsl1 u2 (fun x h => .inl h) (fun x h => .inl h)
  have b02 := Upd.below_from b01 u2 (by simp; omega)
  refine (All_c _ _ _ _ _ s2 (by rw [HN.out]; exact hl12)).mono ?_
  rintro e w3 ⟨v, rfl, hv, b3⟩
  have A3 := (b3.block _ (blk_lt A2)).trans A2
  have s3 := store_upd (S := []) s2 (Upd.of_below b3) (by simp) (by simp)
  have hsl3 := Lib.hid (sl_below hsl2 b3)
  have b03 := b02.trans (b3.mono b02.size)
  have x3 := sl_of_new (A := []) hv (by simp)
  obtain ⟨a', c', rfl, _, _⟩ := id x3
  have X3 := Lib.hid x3
  clear A2 s2 hsl1 hsl2 b01 b02 b3 hv u2 x3
  obtain ⟨ca0, ca1, ca2, ca3, fa⟩ := row4 A3
  have hle1 : (l'.length : Int) ≤ (l.length : Int) := by rw [HN.out]; omega
  have hle2 : (l.length : Int) ≤ (l'.length : Int) := by rw [HN.out]; omega
  have heq : ((l'.length : Int) == (l.length : Int)) = true := by rw [HN.out]; simp
  clear ca0 ca2 ca3 fa
  go_wp2_with fail
  go_loopw [9] (fun i wr => ∃ k : Nat, k ≤ l.length ∧ i = .int .i64 k ∧ ∃ m, wr = w3.drewN m) (fun i _ => l.length - (intOf i).toNat)
  case atStart => exact ⟨0, Nat.zero_le _, rfl, 0, rfl⟩
  case round =>
    obtain ⟨k, hk, rfl, m, rfl⟩ := hrel
    by_cases hlt : k < l.length
    · have hlt2 : k < l'.length := by rw [HN.out]; exact hlt
      obtain ⟨b, off, rfl, _, _, hc1⟩ := sl_at hsl3.out (by rintro rfl; simp at hlt)
      obtain ⟨b', off', rfl, _, _, hc2⟩ := sl_at X3.out (by rintro rfl; simp at hlt2)
      have d1 := hc1 k l[k] (by simp [hlt])
      have d2 := hc2 k l'[k] (by simp [hlt2])
      have HDk := HD.out k
      simp only [List.getElem?_eq_getElem hlt, List.getElem?_eq_getElem hlt2, Option.some.injEq] at HDk
      generalize l[k] = y at *
      generalize l'[k] = z at *
      clear hc1 hc2
      have n0 : decide ((l'.length : Int) ≤ (k : Int)) = false := by simp; omega
      have n0' : decide (l'.length ≤ k) = false := by simp; omega
      have i1 : (k : Int) < (l.length : Int) := by omega
      have i2 : (k : Int) < (l'.length : Int) := by omega
      by_cases hyz : z = y
      · have hb1 : (z != y) = false := by simpa using hyz
        clear hyz HDk
        go_wp2_with fail
        go_quiet (fail)
        go_wp2_with fail
        go_roundw
        case rel => exact ⟨k + 1, by omega, by go_num, _, rfl⟩
        case measure => simp [intOf]; omega
      · obtain ⟨hcc, hka⟩ := HDk hyz
        have hb1 : (z != y) = true := by simpa using hyz
        have hb2 : ((k : Int) != at_) = false := by simpa using hka
        clear hyz HDk hka
        go_wp2_with fail
        go_quiet (fail)
        go_wp2_with fail
        go_roundw
        case rel => exact ⟨k + 1, by omega, by go_num, _, rfl⟩
        case measure => simp [intOf]; omega
    · have n0 : ¬ (k : Int) < (l.length : Int) := by omega
      go_wp2_with (go_at_call 22; refine (Count_c _ _ _ _ _ (store_drewN s3 _)).mono ?_; rintro e w4 ⟨rfl, rfl⟩)
      go_ret
      exact ⟨rfl, below_drewN b03 _⟩

set_option maxHeartbeats 1000000 in
theorem walk_CellsOne2 (l : List Int) (a : Option Addr) (cap : Nat) (d at_ old x : Int) (w : World) (hsl : Sl w [] .u64 (.slice a l.length cap) l) (d0 : 0 ≤ d) (d1 : d < 256) (hbig : ¬ (200 : Int) < (l.length : Int)) (c : Bool) (l' : List Int) (hl' : mdone l d at_ old x = l') (hlen' : l'.length = l.length) (hdiff : ∀ i : Nat, ¬ l'[i]? = l[i]? → c = true ∧ (i : Int) = at_) (hw : d = 2 ∧ mswapped l at_ old = c) :
    Calls Try.prog 6 #[.slice a l.length cap, .agg #[.int .u8 d, .int .i64 at_, .int .u64 old, .int .u64 x]] w fun e w' => e = .returned (.bool true) ∧ Below w.heap.size w w' := by
  obtain ⟨rfl, hsw⟩ := hw
  have nb : Below w.heap.size w (w.alloc (.cells #[.int .u8 2, .int .i64 at_, .int .u64 old, .int .u64 x] 35)) := (Below.refl _ _).alloc (Nat.le_refl _) _
  have hbig' : decide ((200 : Int) < (l.length : Int)) = false := by simpa using hbig
  have hl12 : l.length < 1000000000000 := by omega
  obtain ⟨w9, hw9⟩ : ∃ w9, w9 = w.alloc (.cells #[.int .u8 2, .int .i64 at_, .int .u64 old, .int .u64 x] 35) := ⟨_, rfl⟩
  have HA : w9.heap[w.heap.size]? = some (.cells #[.int .u8 2, .int .i64 at_, .int .u64 old, .int .u64 x] 35 (0, 0)) := by
    rw [hw9]; exact blk_new w _ 0
  have z9 : w9.heap.size = w.heap.size + 1 := by rw [hw9]; simp
  have W9 := Lib.hid hw9
  rw [← hw9] at nb
  have Z9 := Lib.hid z9
  clear hw9 z9
  have HL := Lib.hid hl'
  have HN := Lib.hid hlen'
  have HD := Lib.hid hdiff
  clear hl' hlen' hdiff
  go_enter Try.func6, Try.ntmps6
  go_wp2_with fail
  rw [← W9.out]
  clear W9
  refine (awake6 w9).mono ?_
  rintro e w0 ⟨rfl, b0⟩
  have A0 := (b0.block _ (blk_lt HA)).trans HA
  have lA := blk_lt A0
  have b1 := nb.trans (b0.mono (by have := Z9.out; omega))
  have hsl0 := sl_below hsl b1
  clear HA nb b0 hsl Z9
  go_wp2_with fail
  refine (New_c _ _ _ hsl0 hl12).mono ?_
  rintro e w1 ⟨sb, g, rfl, hsb, hg, hlt, hltg, s1, b2⟩
  have A1 := (b2.block _ lA).trans A0
  have b01 := b1.trans (b2.mono (by omega))
  have q1 : w.heap.size ≤ sb := by omega
  have q2 : w.heap.size ≤ g := by omega
  have hnA : w.heap.size ∉ [sb, g] := notin2 (by omega) (by omega)
  have hsl1 : Sl w1 [sb, g] .u64 (.slice a l.length cap) l := sl_upd (S := []) hsl0 (Upd.of_below b2) (by simp) (by simp; omega)
  clear A0 lA b1 b2 hsl0 hsb hg hlt hltg
  obtain ⟨ca0, ca1, ca2, ca3, fa⟩ := row4 A1
  have wz : wrap64 (0 + 1) = 1 := wrap64_id _ (by decide) (by decide)
  have WZ := Lib.hid wz
  clear wz
  rw [one_2] at HL
  go_wp2_with (first | (go_at_call 12; refine (Load_c _ _ _ _ _ _ s1).mono ?_; rintro e w2 ⟨rfl, s2, u2⟩; rw [HL.out, WZ.out] at s2) | (go_at_call 16; refine (Put_c _ _ _ _ _ _ _ s1).mono ?_; rintro e w2 ⟨rfl, s2, u2⟩; rw [HL.out, WZ.out] at s2) | (go_at_call 11; refine (Swap_c _ _ _ _ _ _ _ _ s1).mono ?_; rintro e w2 ⟨rfl, s2, u2⟩; rw [HL.out, WZ.out] at s2) | (go_at_call 14; refine (Add_c _ _ _ _ _ _ _ s1).mono ?_; rintro e w2 ⟨rfl, s2, u2⟩; rw [HL.out, WZ.out] at s2))
  have A2 := u2.blk A1 hnA
  clear ca0 ca1 ca2 ca3 fa A1 s1
  have hsl2 : Sl w2 [sb, g] .u64 (.slice a l.length cap) l := sl_upd hsl1 u2 (fun x h => .inl h) (fun x h => .inl h)
  have b02 := Upd.below_from b01 u2 (by simp; omega)
  refine (All_c _ _ _ _ _ s2 (by rw [HN.out]; exact hl12)).mono ?_
  rintro e w3 ⟨v, rfl, hv, b3⟩
  have A3 := (b3.block _ (blk_lt A2)).trans A2
  have s3 := store_upd (S := []) s2 (Upd.of_below b3) (by simp) (by simp)
  have hsl3 := Lib.hid (sl_below hsl2 b3)
  have b03 := b02.trans (b3.mono b02.size)
  have x3 := sl_of_new (A := []) hv (by simp)
  obtain ⟨a', c', rfl, _, _⟩ := id x3
  have X3 := Lib.hid x3
  clear A2 s2 hsl1 hsl2 b01 b02 b3 hv u2 x3
  obtain ⟨ca0, ca1, ca2, ca3, fa⟩ := row4 A3
  have hle1 : (l'.length : Int) ≤ (l.length : Int) := by rw [HN.out]; omega
  have hle2 : (l.length : Int) ≤ (l'.length : Int) := by rw [HN.out]; omega
  have heq : ((l'.length : Int) == (l.length : Int)) = true := by rw [HN.out]; simp
  clear ca0 ca2 ca3 fa
  go_wp2_with fail
  go_loopw [9] (fun i wr => ∃ k : Nat, k ≤ l.length ∧ i = .int .i64 k ∧ ∃ m, wr = w3.drewN m) (fun i _ => l.length - (intOf i).toNat)
  case atStart => exact ⟨0, Nat.zero_le _, rfl, 0, rfl⟩
  case round =>
    obtain ⟨k, hk, rfl, m, rfl⟩ := hrel
    by_cases hlt : k < l.length
    · have hlt2 : k < l'.length := by rw [HN.out]; exact hlt
      obtain ⟨b, off, rfl, _, _, hc1⟩ := sl_at hsl3.out (by rintro rfl; simp at hlt)
      obtain ⟨b', off', rfl, _, _, hc2⟩ := sl_at X3.out (by rintro rfl; simp at hlt2)
      have d1 := hc1 k l[k] (by simp [hlt])
      have d2 := hc2 k l'[k] (by simp [hlt2])
      have HDk := HD.out k
      simp only [List.getElem?_eq_getElem hlt, List.getElem?_eq_getElem hlt2, Option.some.injEq] at HDk
      generalize l[k] = y at *
      generalize l'[k] = z at *
      clear hc1 hc2
      have n0 : decide ((l'.length : Int) ≤ (k : Int)) = false := by simp; omega
      have n0' : decide (l'.length ≤ k) = false := by simp; omega
      have i1 : (k : Int) < (l.length : Int) := by omega
      have i2 : (k : Int) < (l'.length : Int) := by omega
      by_cases hyz : z = y
      · have hb1 : (z != y) = false := by simpa using hyz
        clear hyz HDk
        go_wp2_with fail
        go_quiet (fail)
        go_wp2_with fail
        go_roundw
        case rel => exact ⟨k + 1, by omega, by go_num, _, rfl⟩
        case measure => simp [intOf]; omega
      · obtain ⟨hcc, hka⟩ := HDk hyz
        have hb1 : (z != y) = true := by simpa using hyz
        have hb2 : ((k : Int) != at_) = false := by simpa using hka
        subst hcc
        clear hyz HDk hka
        go_wp2_with fail
        go_quiet (fail)
        go_wp2_with fail
        go_roundw
        case rel => exact ⟨k + 1, by omega, by go_num, _, rfl⟩
        case measure => simp [intOf]; omega
    · have n0 : ¬ (k : Int) < (l.length : Int) := by omega
      go_wp2_with (go_at_call 22; refine (Count_c _ _ _ _ _ (store_drewN s3 _)).mono ?_; rintro e w4 ⟨rfl, rfl⟩)
      go_ret
      exact ⟨rfl, below_drewN b03 _⟩

set_option maxHeartbeats 1000000 in
theorem walk_CellsOne3 (l : List Int) (a : Option Addr) (cap : Nat) (d at_ old x : Int) (w : World) (hsl : Sl w [] .u64 (.slice a l.length cap) l) (d0 : 0 ≤ d) (d1 : d < 256) (hbig : ¬ (200 : Int) < (l.length : Int)) (c : Bool) (l' : List Int) (hl' : mdone l d at_ old x = l') (hlen' : l'.length = l.length) (hdiff : ∀ i : Nat, ¬ l'[i]? = l[i]? → c = true ∧ (i : Int) = at_) (hw : 2 < d ∧ c = true) :
    Calls Try.prog 6 #[.slice a l.length cap, .agg #[.int .u8 d, .int .i64 at_, .int .u64 old, .int .u64 x]] w fun e w' => e = .returned (.bool true) ∧ Below w.heap.size w w' := by
  obtain ⟨hd3, rfl⟩ := hw
  have nb : Below w.heap.size w (w.alloc (.cells #[.int .u8 d, .int .i64 at_, .int .u64 old, .int .u64 x] 35)) := (Below.refl _ _).alloc (Nat.le_refl _) _
  have hbig' : decide ((200 : Int) < (l.length : Int)) = false := by simpa using hbig
  have hl12 : l.length < 1000000000000 := by omega
  obtain ⟨w9, hw9⟩ : ∃ w9, w9 = w.alloc (.cells #[.int .u8 d, .int .i64 at_, .int .u64 old, .int .u64 x] 35) := ⟨_, rfl⟩
  have HA : w9.heap[w.heap.size]? = some (.cells #[.int .u8 d, .int .i64 at_, .int .u64 old, .int .u64 x] 35 (0, 0)) := by
    rw [hw9]; exact blk_new w _ 0
  have z9 : w9.heap.size = w.heap.size + 1 := by rw [hw9]; simp
  have W9 := Lib.hid hw9
  rw [← hw9] at nb
  have Z9 := Lib.hid z9
  clear hw9 z9
  have HL := Lib.hid hl'
  have HN := Lib.hid hlen'
  have HD := Lib.hid hdiff
  clear hl' hlen' hdiff
  go_enter Try.func6, Try.ntmps6
  go_wp2_with fail
  rw [← W9.out]
  clear W9
  refine (awake6 w9).mono ?_
  rintro e w0 ⟨rfl, b0⟩
  have A0 := (b0.block _ (blk_lt HA)).trans HA
  have lA := blk_lt A0
  have b1 := nb.trans (b0.mono (by have := Z9.out; omega))
  have hsl0 := sl_below hsl b1
  clear HA nb b0 hsl Z9
  go_wp2_with fail
  refine (New_c _ _ _ hsl0 hl12).mono ?_
  rintro e w1 ⟨sb, g, rfl, hsb, hg, hlt, hltg, s1, b2⟩
  have A1 := (b2.block _ lA).trans A0
  have b01 := b1.trans (b2.mono (by omega))
  have q1 : w.heap.size ≤ sb := by omega
  have q2 : w.heap.size ≤ g := by omega
  have hnA : w.heap.size ∉ [sb, g] := notin2 (by omega) (by omega)
  have hsl1 : Sl w1 [sb, g] .u64 (.slice a l.length cap) l := sl_upd (S := []) hsl0 (Upd.of_below b2) (by simp) (by simp; omega)
  clear A0 lA b1 b2 hsl0 hsb hg hlt hltg
  obtain ⟨ca0, ca1, ca2, ca3, fa⟩ := row4 A1
  have wz : wrap64 (0 + 1) = 1 := wrap64_id _ (by decide) (by decide)
  have WZ := Lib.hid wz
  clear wz
  rw [one_3 _ _ _ _ _ hd3] at HL
  have e0 : (d == 0) = false := by rw [beq_eq_false_iff_ne]; omega
  have e1 : (d == 1) = false := by rw [beq_eq_false_iff_ne]; omega
  have e2 : (d == 2) = false := by rw [beq_eq_false_iff_ne]; omega
  go_wp2_with (first | (go_at_call 12; refine (Load_c _ _ _ _ _ _ s1).mono ?_; rintro e w2 ⟨rfl, s2, u2⟩; rw [HL.out, WZ.out] at s2) | (go_at_call 16; refine (Put_c _ _ _ _ _ _ _ s1).mono ?_; rintro e w2 ⟨rfl, s2, u2⟩; rw [HL.out, WZ.out] at s2) | (go_at_call 11; refine (Swap_c _ _ _ _ _ _ _ _ s1).mono ?_; rintro e w2 ⟨rfl, s2, u2⟩; rw [HL.out, WZ.out] at s2) | (go_at_call 14; refine (Add_c _ _ _ _ _ _ _ s1).mono ?_; rintro e w2 ⟨rfl, s2, u2⟩; rw [HL.out, WZ.out] at s2))
  have A2 := u2.blk A1 hnA
  clear ca0 ca1 ca2 ca3 fa A1 s1
  have hsl2 : Sl w2 [sb, g] .u64 (.slice a l.length cap) l := sl_upd hsl1 u2 (fun x h => .inl h) (fun x h => .inl h)
  have b02 := Upd.below_from b01 u2 (by simp; omega)
  refine (All_c _ _ _ _ _ s2 (by rw [HN.out]; exact hl12)).mono ?_
  rintro e w3 ⟨v, rfl, hv, b3⟩
  have A3 := (b3.block _ (blk_lt A2)).trans A2
  have s3 := store_upd (S := []) s2 (Upd.of_below b3) (by simp) (by simp)
  have hsl3 := Lib.hid (sl_below hsl2 b3)
  have b03 := b02.trans (b3.mono b02.size)
  have x3 := sl_of_new (A := []) hv (by simp)
  obtain ⟨a', c', rfl, _, _⟩ := id x3
  have X3 := Lib.hid x3
  clear A2 s2 hsl1 hsl2 b01 b02 b3 hv u2 x3
  obtain ⟨ca0, ca1, ca2, ca3, fa⟩ := row4 A3
  have hle1 : (l'.length : Int) ≤ (l.length : Int) := by rw [HN.out]; omega
  have hle2 : (l.length : Int) ≤ (l'.length : Int) := by rw [HN.out]; omega
  have heq : ((l'.length : Int) == (l.length : Int)) = true := by rw [HN.out]; simp
  clear ca0 ca2 ca3 fa
  go_wp2_with fail
  go_loopw [9] (fun i wr => ∃ k : Nat, k ≤ l.length ∧ i = .int .i64 k ∧ ∃ m, wr = w3.drewN m) (fun i _ => l.length - (intOf i).toNat)
  case atStart => exact ⟨0, Nat.zero_le _, rfl, 0, rfl⟩
  case round =>
    obtain ⟨k, hk, rfl, m, rfl⟩ := hrel
    by_cases hlt : k < l.length
    · have hlt2 : k < l'.length := by rw [HN.out]; exact hlt
      obtain ⟨b, off, rfl, _, _, hc1⟩ := sl_at hsl3.out (by rintro rfl; simp at hlt)
      obtain ⟨b', off', rfl, _, _, hc2⟩ := sl_at X3.out (by rintro rfl; simp at hlt2)
      have d1 := hc1 k l[k] (by simp [hlt])
      have d2 := hc2 k l'[k] (by simp [hlt2])
      have HDk := HD.out k
      simp only [List.getElem?_eq_getElem hlt, List.getElem?_eq_getElem hlt2, Option.some.injEq] at HDk
      generalize l[k] = y at *
      generalize l'[k] = z at *
      clear hc1 hc2
      have n0 : decide ((l'.length : Int) ≤ (k : Int)) = false := by simp; omega
      have n0' : decide (l'.length ≤ k) = false := by simp; omega
      have i1 : (k : Int) < (l.length : Int) := by omega
      have i2 : (k : Int) < (l'.length : Int) := by omega
      by_cases hyz : z = y
      · have hb1 : (z != y) = false := by simpa using hyz
        clear hyz HDk
        go_wp2_with fail
        go_quiet (fail)
        go_wp2_with fail
        go_roundw
        case rel => exact ⟨k + 1, by omega, by go_num, _, rfl⟩
        case measure => simp [intOf]; omega
      · obtain ⟨hcc, hka⟩ := HDk hyz
        have hb1 : (z != y) = true := by simpa using hyz
        have hb2 : ((k : Int) != at_) = false := by simpa using hka
        clear hyz HDk hka
        go_wp2_with fail
        go_quiet (fail)
        go_wp2_with fail
        go_roundw
        case rel => exact ⟨k + 1, by omega, by go_num, _, rfl⟩
        case measure => simp [intOf]; omega
    · have n0 : ¬ (k : Int) < (l.length : Int) := by omega
      go_wp2_with (go_at_call 22; refine (Count_c _ _ _ _ _ (store_drewN s3 _)).mono ?_; rintro e w4 ⟨rfl, rfl⟩)
      go_ret
      exact ⟨rfl, below_drewN b03 _⟩

theorem walk_CellsOne (a : Option Addr) (len cap : Nat) (zs : List Int) (d at_ old x : Int) (w : World) (hr : IsRow .u64 w a len cap zs) (d0 : 0 ≤ d) (d1 : d < 256) :
    Calls Try.prog 6 #[.slice a len cap, .agg #[.int .u8 d, .int .i64 at_, .int .u64 old, .int .u64 x]] w fun e w' => e = .returned (.bool true) ∧ Below w.heap.size w w' := by
  obtain ⟨l, rfl, hsl, _⟩ := row_opens hr
  clear hr
  by_cases hbig : (200 : Int) < (l.length : Int)
  · have nb : Below w.heap.size w (w.alloc (.cells #[.int .u8 d, .int .i64 at_, .int .u64 old, .int .u64 x] 35)) := (Below.refl _ _).alloc (Nat.le_refl _) _
    go_enter Try.func6, Try.ntmps6
    go_wp2_with (go_at_call 9; refine (awake6 _).mono ?_ ; rintro e w0 ⟨rfl, b0⟩)
    go_ret
    exact ⟨rfl, nb.trans (b0.mono (by simp))⟩
  obtain ⟨c, l', hl', hlen', hdiff, ways⟩ := one_ways l d at_ old x d0
  rcases ways with hw | hw | hw | hw
  · exact walk_CellsOne0 l a cap d at_ old x w hsl d0 d1 hbig c l' hl' hlen' hdiff hw
  · exact walk_CellsOne1 l a cap d at_ old x w hsl d0 d1 hbig c l' hl' hlen' hdiff hw
  · exact walk_CellsOne2 l a cap d at_ old x w hsl d0 d1 hbig c l' hl' hlen' hdiff hw
  · exact walk_CellsOne3 l a cap d at_ old x w hsl d0 d1 hbig c l' hl' hlen' hdiff hw

end Go.Proofs.Ytmbffmgjjdihjaa
