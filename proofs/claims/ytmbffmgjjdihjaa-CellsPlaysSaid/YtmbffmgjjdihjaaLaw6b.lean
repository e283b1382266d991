/- The walks of further statements of layer 6 (cells): each answers true, and nothing that was there is changed. No condition but that the arguments can be read. -/
import Derived.Test.YtmbffmgjjdihjaaLaw6
set_option linter.unusedVariables false
namespace Go.Proofs.Ytmbffmgjjdihjaa
open Go.ChangeShapes Go.WideShapes Go.ChangeAt Go.RowKit

/-- A slice that came in, its elements alone. -/
theorem row_opens {k : IntKind} {w : World} {a : Option Addr} {len cap : Nat} {zs : List Int} (hr : IsRow k w a len cap zs) : ∃ l : List Int, len = l.length ∧ Sl w [] k (.slice a len cap) l ∧ ∀ x ∈ l, (Lit.int k x).wf = true := by
  refine ⟨zs.take len, ?_, sl_of_row hr, fun x hx => ?_⟩
  · rcases hr with ⟨_, rfl, _, rfl⟩ | ⟨x, _, hl, _, hz, _⟩
    · rfl
    · rw [List.length_take]; omega
  · rcases hr with ⟨_, rfl, _, rfl⟩ | ⟨y, _, hl, _, hz, _, hw⟩
    · simp at hx
    · exact hw x (List.mem_of_mem_take hx)

theorem row4 {w : World} {B : Nat} {a b c d : Value} {T : TypeId} (h : w.heap[B]? = some (.cells #[a, b, c, d] T (0, 0))) : w.cell? ⟨B, 0, none⟩ = some a ∧ w.cell? ⟨B, 1, none⟩ = some b ∧ w.cell? ⟨B, 2, none⟩ = some c ∧ w.cell? ⟨B, 3, none⟩ = some d ∧ ∀ o, w.frozen? ⟨B, o, none⟩ = false :=
  ⟨blk_cell h 0, blk_cell h 1, blk_cell h 2, blk_cell h 3, blk_frozen h⟩

/-- What an access tells, as a number, and the words behind it. -/
def mdoes (l : List Int) (d at_ old x : Int) : Int := if d = 0 then mld l at_ else if d = 1 then 0 else if d = 2 then (if mswapped l at_ old then 1 else 0) else mld l at_
def mdone (l : List Int) (d at_ old x : Int) : List Int := if d = 0 then l else if d = 1 then mput l at_ x else if d = 2 then mswap l at_ old x else madd l at_ x

theorem does_c (sb g : Nat) (l : List Int) (n d at_ old x : Int) (w : World) (h : StoreAt w sb g l n) :
    Calls Try.prog 24 #[.pointer (some ⟨sb, 0, none⟩), .agg #[.int .u8 d, .int .i64 at_, .int .u64 old, .int .u64 x]] w fun e w' => e = .returned (.int .u64 (mdoes l d at_ old x)) ∧ StoreAt w' sb g (mdone l d at_ old x) (wrap64 (n + 1)) ∧ Upd [sb, g] w w' := by
  have h' := store_upd (S := []) h ((Upd.refl _ _).alloc (.cells #[.int .u8 d, .int .i64 at_, .int .u64 old, .int .u64 x] 35)) (by simp) (by simp)
  have u0 : Upd [sb, g] w (w.alloc (.cells #[.int .u8 d, .int .i64 at_, .int .u64 old, .int .u64 x] 35)) := (Upd.refl _ _).alloc _
  by_cases d0 : d = 0
  · subst d0
    go_enter Try.func24, Try.ntmps24
    go_wp2_with (go_at_call 12; refine (Load_c _ _ _ _ _ _ h').mono ?_; rintro e w1 ⟨rfl, s1, u1⟩)
    go_ret
    exact ⟨rfl, s1, u0.trans u1⟩
  have e0 : (d == 0) = false := by simpa using d0
  by_cases d1 : d = 1
  · subst d1
    go_enter Try.func24, Try.ntmps24
    go_wp2_with (go_at_call 16; refine (Put_c _ _ _ _ _ _ _ h').mono ?_; rintro e w1 ⟨rfl, s1, u1⟩)
    go_ret
    exact ⟨rfl, s1, u0.trans u1⟩
  have e1 : (d == 1) = false := by simpa using d1
  by_cases d2 : d = 2
  · subst d2
    cases hs : mswapped l at_ old with
    | true =>
      have r : (if mswapped l at_ old then (1 : Int) else 0) = 1 := by rw [hs]; rfl
      have R := Lib.hid r
      clear r
      go_enter Try.func24, Try.ntmps24
      go_wp2_with (go_at_call 11; refine (Swap_c _ _ _ _ _ _ _ _ h').mono ?_; rintro e w1 ⟨rfl, s1, u1⟩)
      go_ret
      exact ⟨ret_int R.out.symm, s1, u0.trans u1⟩
    | false =>
      have r : (if mswapped l at_ old then (1 : Int) else 0) = 0 := by rw [hs]; rfl
      have R := Lib.hid r
      clear r
      go_enter Try.func24, Try.ntmps24
      go_wp2_with (go_at_call 11; refine (Swap_c _ _ _ _ _ _ _ _ h').mono ?_; rintro e w1 ⟨rfl, s1, u1⟩)
      go_ret
      exact ⟨ret_int R.out.symm, s1, u0.trans u1⟩
  have e2 : (d == 2) = false := by simpa using d2
  have r1 : mdoes l d at_ old x = mld l at_ := by unfold mdoes; rw [if_neg d0, if_neg d1, if_neg d2]
  have r2 : mdone l d at_ old x = madd l at_ x := by unfold mdone; rw [if_neg d0, if_neg d1, if_neg d2]
  have R := Lib.hid (And.intro r1 r2)
  clear r1 r2 d0 d1 d2
  go_enter Try.func24, Try.ntmps24
  go_wp2_with (go_at_call 14; refine (Add_c _ _ _ _ _ _ _ h').mono ?_; rintro e w1 ⟨rfl, s1, u1⟩)
  go_ret
  exact ⟨ret_int R.out.1.symm, by rw [R.out.2]; exact s1, u0.trans u1⟩

/-- What an access puts at its place, if anything: told by the word that stands there. -/
def meff (inr : Bool) (c d old x : Int) : Option Int := if d = 0 then none else if d = 1 then some x else if d = 2 then (if inr && (c == old) then some x else none) else some (IntKind.u64.wrap (c + x))
def mopt (l : List Int) (at_ : Int) : Option Int → List Int
  | none => l
  | some v => mput l at_ v

theorem mdone_eff (l : List Int) (d at_ old x : Int) : mdone l d at_ old x = mopt l at_ (meff (decide (0 ≤ at_ ∧ at_ < l.length)) (mld l at_) d old x) := by
  unfold mdone meff mopt mswap mswapped madd
  by_cases h0 : d = 0
  · simp [h0]
  · by_cases h1 : d = 1
    · simp [h1]
    · by_cases h2 : d = 2
      · simp only [h2]
        by_cases hc : (decide (0 ≤ at_ ∧ at_ < (l.length : Int)) && (mld l at_ == old)) = true
        · rw [hc]; simp
        · rw [Bool.not_eq_true] at hc; rw [hc]; simp
      · simp [h0, h1, h2]

theorem mdoes_eff (l l' : List Int) (d at_ old x : Int) (h1 : mld l at_ = mld l' at_) (h2 : l.length = l'.length) : mdoes l d at_ old x = mdoes l' d at_ old x := by
  unfold mdoes mswapped
  rw [h1, h2]

theorem mopt_length (l : List Int) (at_ : Int) (o : Option Int) : (mopt l at_ o).length = l.length := by
  cases o with
  | none => rfl
  | some v => exact mput_length _ _ _

theorem mdone_length (l : List Int) (d at_ old x : Int) : (mdone l d at_ old x).length = l.length := by rw [mdone_eff, mopt_length]

theorem mld_mput_ne (l : List Int) (i j v : Int) (h : i ≠ j) : mld (mput l i v) j = mld l j := by
  unfold mld
  rw [mput_length]
  by_cases hj : 0 ≤ j ∧ j < l.length
  · rw [if_pos hj, if_pos hj]
    unfold mput
    split
    · rename_i hi
      simp only [List.getD_eq_getElem?_getD]
      rw [List.getElem?_set_ne (by omega)]
    · rfl
  · rw [if_neg hj, if_neg hj]

theorem mld_mopt_ne (l : List Int) (i j : Int) (o : Option Int) (h : i ≠ j) : mld (mopt l i o) j = mld l j := by
  cases o with
  | none => rfl
  | some v => exact mld_mput_ne l i j v h

theorem mput_comm (l : List Int) (i j u v : Int) (h : i ≠ j) : mput (mput l i u) j v = mput (mput l j v) i u := by
  unfold mput
  by_cases hi : 0 ≤ i ∧ i < l.length <;> by_cases hj : 0 ≤ j ∧ j < l.length
  · simp only [hi, hj, if_true, List.length_set, and_self]
    rw [List.set_comm _ _ (by omega)]
  · simp only [hi, hj, if_true, if_false, List.length_set, and_self]
  · simp only [hi, hj, if_true, if_false, List.length_set, and_self]
  · simp only [hi, hj, if_false]

theorem mopt_comm (l : List Int) (i j : Int) (o p : Option Int) (h : i ≠ j) : mopt (mopt l i o) j p = mopt (mopt l j p) i o := by
  cases o with
  | none => rfl
  | some u =>
    cases p with
    | none => rfl
    | some v => exact mput_comm l i j u v h

theorem mdone_comm (l : List Int) (d i old x d' j old' x' : Int) (h : i ≠ j) : mdone (mdone l d i old x) d' j old' x' = mdone (mdone l d' j old' x') d i old x := by
  rw [mdone_eff (mdone l d i old x), mdone_eff (mdone l d' j old' x'), mdone_length, mdone_length, mdone_eff l d, mdone_eff l d', mld_mopt_ne _ _ _ _ h, mld_mopt_ne _ _ _ _ (Ne.symm h)]
  exact mopt_comm _ _ _ _ _ h

theorem mdoes_comm (l : List Int) (d i old x d' j old' x' : Int) (h : i ≠ j) : mdoes (mdone l d i old x) d' j old' x' = mdoes l d' j old' x' :=
  mdoes_eff _ _ _ _ _ _ (by rw [mdone_eff, mld_mopt_ne _ _ _ _ h]) (mdone_length _ _ _ _ _)

theorem walk_CellsTurned (a : Option Addr) (len cap : Nat) (zs : List Int) (d i old x d' j old' x' : Int) (w : World) (hr : IsRow .u64 w a len cap zs) :
    Calls Try.prog 8 #[.slice a len cap, .agg #[.int .u8 d, .int .i64 i, .int .u64 old, .int .u64 x], .agg #[.int .u8 d', .int .i64 j, .int .u64 old', .int .u64 x']] w fun e w' => e = .returned (.bool true) ∧ Below w.heap.size w w' := by
  obtain ⟨l, rfl, hsl, _⟩ := row_opens hr
  clear hr
  have nb : Below w.heap.size w ((w.alloc (.cells #[.int .u8 d, .int .i64 i, .int .u64 old, .int .u64 x] 35)).alloc (.cells #[.int .u8 d', .int .i64 j, .int .u64 old', .int .u64 x'] 35)) := ((Below.refl _ _).alloc (Nat.le_refl _) _).alloc (by simp) _
  by_cases hbig : (60 : Int) < (l.length : Int)
  · go_enter Try.func8, Try.ntmps8
    go_wp2_with (go_at_call 9; refine (awake6 _).mono ?_ ; rintro e w0 ⟨rfl, b0⟩)
    go_ret
    exact ⟨rfl, nb.trans (b0.mono (by simp; omega))⟩
  have hbig' : decide ((60 : Int) < (l.length : Int)) = false := by simpa using hbig
  obtain ⟨w9, hw9⟩ : ∃ w9, w9 = (w.alloc (.cells #[.int .u8 d, .int .i64 i, .int .u64 old, .int .u64 x] 35)).alloc (.cells #[.int .u8 d', .int .i64 j, .int .u64 old', .int .u64 x'] 35) := ⟨_, rfl⟩
  have hA : w9.heap[w.heap.size]? = some (.cells #[.int .u8 d, .int .i64 i, .int .u64 old, .int .u64 x] 35 (0, 0)) := by
    rw [hw9, Below.heap_alloc _ _ _ (by simp)]; exact blk_new w _ 0
  have hB : w9.heap[w.heap.size + 1]? = some (.cells #[.int .u8 d', .int .i64 j, .int .u64 old', .int .u64 x'] 35 (0, 0)) := by
    rw [hw9]; have := blk_new (w.alloc (.cells #[.int .u8 d, .int .i64 i, .int .u64 old, .int .u64 x] 35)) (.cells #[.int .u8 d', .int .i64 j, .int .u64 old', .int .u64 x'] 35) 0
    simpa using this
  have H := Lib.hid (And.intro hA hB)
  have W9 := Lib.hid hw9
  rw [← hw9] at nb
  clear hA hB hw9
  obtain ⟨HA, HB⟩ := H.out
  have z9 : w9.heap.size = w.heap.size + 2 := by rw [W9.out]; simp
  have Z9 := Lib.hid z9
  clear z9 H
  go_enter Try.func8, Try.ntmps8
  go_wp2_with fail
  rw [← W9.out]
  clear W9
  refine (awake6 w9).mono ?_
  rintro e w0 ⟨rfl, b0⟩
  have A0 := (b0.block _ (blk_lt HA)).trans HA
  have B0 := (b0.block _ (blk_lt HB)).trans HB
  have lA := blk_lt A0
  have lB := blk_lt B0
  have z0 := b0.size
  have z0' : w.heap.size + 2 ≤ w0.heap.size := by have := Z9.out; omega
  have b1 := nb.trans (b0.mono (by have := Z9.out; omega))
  have hsl0 := sl_below hsl b1
  clear HA HB z0 nb b0 hsl Z9
  by_cases hij : i = j
  · subst hij
    obtain ⟨ca0, ca1, ca2, ca3, fa⟩ := row4 A0
    obtain ⟨cb0, cb1, cb2, cb3, fb⟩ := row4 B0
    clear A0 B0
    go_wp2_with fail
    go_ret
    exact ⟨rfl, b1⟩
  have hij' : (i == j) = false := by simpa using hij
  have IJ := Lib.hid hij
  clear hij
  obtain ⟨ca0, ca1, ca2, ca3, fa⟩ := row4 A0
  obtain ⟨cb0, cb1, cb2, cb3, fb⟩ := row4 B0
  go_wp2_with fail
  clear ca0 ca1 ca2 ca3 fa cb0 cb1 cb2 cb3 fb
  have hl12 : l.length < 1000000000000 := by omega
  refine (New_c _ _ _ hsl0 hl12).mono ?_
  rintro e w1 ⟨sb, g, rfl, hsb, hg, hlt, hltg, s1, b2⟩
  have hsl1 := sl_below hsl0 b2
  have z1 := b2.size
  go_wp2_with fail
  refine (New_c _ _ _ hsl1 hl12).mono ?_
  rintro e w2 ⟨tb, h, rfl, htb, hh, hlt2, hltg2, t2, b3⟩
  have s2 := store_upd (S := []) s1 (Upd.of_below b3) (by simp) (by simp)
  have z2 := b3.size
  have b12 := b2.trans (b3.mono z1)
  have A2 := (b12.block _ lA).trans A0
  have B2 := (b12.block _ lB).trans B0
  have b4 := b1.trans (b12.mono (by omega))
  have hn1 : tb ∉ [sb, g] := notin2 (by omega) (by omega)
  have hn2 : h ∉ [sb, g] := notin2 (by omega) (by omega)
  have hn3 : sb ∉ [tb, h] := notin2 (by omega) (by omega)
  have hn4 : g ∉ [tb, h] := notin2 (by omega) (by omega)
  have a1 : w.heap.size ∉ [sb, g] := notin2 (by omega) (by omega)
  have a2 : w.heap.size + 1 ∉ [sb, g] := notin2 (by omega) (by omega)
  have a3 : w.heap.size ∉ [tb, h] := notin2 (by omega) (by omega)
  have a4 : w.heap.size + 1 ∉ [tb, h] := notin2 (by omega) (by omega)
  have q1 : w.heap.size ≤ sb := by omega
  have q2 : w.heap.size ≤ g := by omega
  have q3 : w.heap.size ≤ tb := by omega
  have q4 : w.heap.size ≤ h := by omega
  clear z2 htb hh hlt2 hltg2 hlt hltg hsb hg z1 z0' lA lB A0 B0 s1 b1 b2 b3 b12 hsl0 hsl1
  obtain ⟨ca0, ca1, ca2, ca3, fa⟩ := row4 A2
  go_wp2_with fail
  clear ca0 ca1 ca2 ca3 fa
  refine (does_c _ _ _ _ _ _ _ _ _ s2).mono ?_
  rintro e w3 ⟨rfl, s3, u3⟩
  have A3 := u3.blk A2 a1
  have B3 := u3.blk B2 a2
  have t3 := store_upd t2 u3 hn1 hn2
  obtain ⟨cb0, cb1, cb2, cb3, fb⟩ := row4 B3
  go_wp2_with fail
  clear cb0 cb1 cb2 cb3 fb A2 B2 t2 s2
  refine (does_c _ _ _ _ _ _ _ _ _ s3).mono ?_
  rintro e w4 ⟨rfl, s4, u4⟩
  have A4 := u4.blk A3 a1
  have B4 := u4.blk B3 a2
  have t4 := store_upd t3 u4 hn1 hn2
  obtain ⟨cb0, cb1, cb2, cb3, fb⟩ := row4 B4
  go_wp2_with fail
  clear cb0 cb1 cb2 cb3 fb A3 B3 t3 s3
  refine (does_c _ _ _ _ _ _ _ _ _ t4).mono ?_
  rintro e w5 ⟨rfl, t5, u5⟩
  have A5 := u5.blk A4 a3
  have s5 := store_upd s4 u5 hn3 hn4
  obtain ⟨ca0, ca1, ca2, ca3, fa⟩ := row4 A5
  go_wp2_with fail
  clear ca0 ca1 ca2 ca3 fa A4 B4 t4 s4 A5
  refine (does_c _ _ _ _ _ _ _ _ _ t5).mono ?_
  rintro e w6 ⟨rfl, t6, u6⟩
  have s6 := store_upd s5 u6 hn3 hn4
  have f1 := mdoes_comm l d' j old' x' d i old x (Ne.symm IJ.out)
  have f2 := mdoes_comm l d i old x d' j old' x' IJ.out
  rw [f1, f2]
  rw [mdone_comm l d' j old' x' d i old x (Ne.symm IJ.out)] at t6
  have hl2 : (mdone (mdone l d i old x) d' j old' x').length < 1000000000000 := by rw [mdone_length, mdone_length]; exact hl12
  generalize mdone (mdone l d i old x) d' j old' x' = l2 at *
  generalize mdoes l d i old x = y1 at *
  generalize mdoes l d' j old' x' = y2 at *
  go_wp2_with fail
  refine (All_c _ _ _ _ _ s6 hl2).mono ?_
  rintro e w7 ⟨v, rfl, hv, b7⟩
  have t7 := store_upd (S := []) t6 (Upd.of_below b7) (by simp) (by simp)
  go_wp2_with fail
  refine (All_c _ _ _ _ _ t7 hl2).mono ?_
  rintro e w8 ⟨v', rfl, hv', b8⟩
  have r1 := sl_below (sl_of_new (A := []) hv (by simp)) b8
  have r2 := sl_of_new (A := []) hv' (by simp)
  go_wp2_with fail
  refine (RSame_c _ _ _ _ _ r1 r2 hl2).mono ?_
  rintro e w9 ⟨rfl, dn, rfl⟩
  go_wp2_with fail
  go_ret
  have z7 := b7.size
  have c1 := Upd.below_from b4 (((u3.trans u4).mono (T := [sb, g, tb, h]) (by simp)).trans ((u5.trans u6).mono (by simp))) (by simp; omega)
  have c2 := c1.trans (b7.mono c1.size)
  have c3 := c2.trans (b8.mono c2.size)
  exact ⟨ret_bool (by simp), below_drewN c3 _⟩

end Go.Proofs.Ytmbffmgjjdihjaa
