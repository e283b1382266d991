/- The walks of the statements of layer 6 (cells): each answers true, and nothing that was there is changed. No condition but that the arguments can be read. -/
import Derived.Test.YtmbffmgjjdihjaaRef6
set_option linter.unusedVariables false
namespace Go.Proofs.Ytmbffmgjjdihjaa
open Go.ChangeShapes Go.WideShapes Go.ChangeAt Go.RowKit

theorem wrap64_id (n : Int) (h : -9223372036854775808 ≤ n) (h' : n < 9223372036854775808) : wrap64 n = n := by unfold wrap64; omega

theorem mld_one (a : Int) : mld [a] 0 = a := rfl
theorem mput_one (a x : Int) : mput [a] 0 x = [x] := rfl
theorem mswapped_one (a b : Int) : mswapped [a] 0 b = (a == b) := rfl
theorem mswap_one_yes (a x : Int) : mswap [a] 0 a x = [x] := by unfold mswap; rw [mswapped_one]; simp [mput_one]
theorem mswap_one_no (a b x : Int) (h : ¬ a = b) : mswap [a] 0 b x = [a] := by unfold mswap; rw [mswapped_one]; simp [h]
theorem madd_one (a x : Int) : madd [a] 0 x = [IntKind.u64.wrap (a + x)] := rfl

theorem sl_two (w : World) (a b : Int) : Sl (w.alloc (.cells #[.int .u64 a, .int .u64 b] 22)) [] .u64 (.slice (some ⟨w.heap.size, 0, none⟩) 2 2) [a, b] := by
  refine ⟨_, 2, rfl, by simp, .inr ⟨w.heap.size, 0, rfl, by simp, by simp, fun j hj => ?_⟩⟩
  have hb : (w.alloc (.cells #[.int .u64 a, .int .u64 b] 22)).heap[w.heap.size]? = some (.cells #[.int .u64 a, .int .u64 b] 22) := blk_new w _ 0
  rw [blk_cell hb]
  match j, hj with
  | 0, _ => rfl
  | 1, _ => rfl

theorem sl_one (w : World) (a : Int) (n : Nat) : Sl ((w.alloc (.cells #[.int .u64 a] 22)).drewN n) [] .u64 (.slice (some ⟨w.heap.size, 0, none⟩) 1 1) [a] := by
  refine ⟨_, 1, rfl, by simp, .inr ⟨w.heap.size, 0, rfl, by simp, by simp, fun j hj => ?_⟩⟩
  rw [blk_cell (blk_new w _ n)]
  match j, hj with
  | 0, _ => rfl

theorem awake6 (w : World) : Calls Try.prog 9 #[] w fun e w' => e = .returned (.bool true) ∧ Below w.heap.size w w' := by
  go_enter Try.func9, Try.ntmps9
  go_wp2_with fail
  refine (New_c _ _ _ (sl_two w 5 6) (by decide)).mono ?_
  rintro e w1 ⟨sb, g, rfl, hsb, hg, hlt, hltg, s1, b1⟩
  have b1' := (below_box w (.cells #[.int .u64 5, .int .u64 6] 22) 0).trans (b1.mono (by simp))
  clear b1
  go_wp2_with fail
  refine (Swap_c _ _ _ _ _ _ _ _ s1).mono ?_
  rintro e w2 ⟨rfl, s2, u2⟩
  have s2' : StoreAt w2 sb g [9, 6] 1 := by have e : wrap64 (0 + 1) = 1 := wrap64_id _ (by decide) (by decide); rw [e] at s2; exact s2
  have e2 : mswapped [5, 6] 0 5 = true := rfl
  go_wp2_with fail
  refine (Add_c _ _ _ _ _ _ _ s2').mono ?_
  rintro e w3 ⟨rfl, s3, u3⟩
  have s3' : StoreAt w3 sb g [9, 8] 2 := by have e : wrap64 (1 + 1) = 2 := wrap64_id _ (by decide) (by decide); rw [e] at s3; exact s3
  have e3 : mld [9, 6] 1 = 6 := rfl
  go_wp2_with fail
  refine (Count_c _ _ _ _ _ s3').mono ?_
  rintro e w3' ⟨rfl, rfl⟩
  go_wp2_with fail
  refine (Load_c _ _ _ _ _ _ s3').mono ?_
  rintro e w4 ⟨rfl, s4, u4⟩
  have e4 : mld [9, 8] 0 = 9 := rfl
  go_wp2_with fail
  refine (Load_c _ _ _ _ _ _ s4).mono ?_
  rintro e w5 ⟨rfl, s5, u5⟩
  have e5 : mld [9, 8] 1 = 8 := rfl
  go_wp2_with fail
  refine (Len_c _ _ _ _ _ s5).mono ?_
  rintro e w6 ⟨rfl, rfl⟩
  go_wp2_with fail
  go_ret
  simp at hsb hg
  exact ⟨rfl, Upd.below_from b1' (((u2.trans u3).trans u4).trans u5) (by simp; omega)⟩

theorem pick_c (c : Bool) (a b : Int) (w : World) : Calls Try.prog 13 #[.bool c, .int .u64 a, .int .u64 b] w fun e w' => e = .returned (.int .u64 (if c then a else b)) ∧ w' = w := by
  cases c
  all_goals
    go_enter Try.func13, Try.ntmps13
    go_wp2
    go_ret
    exact ⟨rfl, rfl⟩

theorem walk_CellsSwap (a x y : Int) (w : World) :
    Calls Try.prog 3 #[.int .u64 a, .int .u64 x, .int .u64 y] w fun e w' => e = .returned (.bool true) ∧ Below w.heap.size w w' := by
  go_enter Try.func3, Try.ntmps3
  go_wp2_with (go_at_call 9; refine (awake6 _).mono ?_ ; rintro e w0 ⟨rfl, b0⟩)
  have z0 := b0.size
  refine (New_c _ _ _ (sl_one w0 a 0) (by simp)).mono ?_
  rintro e w1 ⟨sb, g, rfl, hsb, hg, hlt, hltg, s1, b1⟩
  have b1' := b0.trans ((below_box w0 (.cells #[.int .u64 a] 22) 0).trans (b1.mono (by simp))|>.mono z0)
  clear b1 b0
  have hsb' : w.heap.size ≤ sb := by simp at hsb; omega
  have hg' : w.heap.size ≤ g := by simp at hg; omega
  clear hsb hg
  go_wp2_with fail
  refine (Swap_c _ _ _ _ _ _ _ _ s1).mono ?_
  rintro e w2 ⟨rfl, s2, u2⟩
  rw [mswap_one_yes] at s2
  have e2 : mswapped [a] 0 a = true := by rw [mswapped_one]; simp
  go_wp2_with fail
  refine (Swap_c _ _ _ _ _ _ _ _ s2).mono ?_
  by_cases hx : a = x
  · subst hx
    rintro e w3 ⟨rfl, s3, u3⟩
    rw [mswap_one_yes] at s3
    go_wp2_with fail
    refine (Load_c _ _ _ _ _ _ s3).mono ?_
    rintro e w4 ⟨rfl, s4, u4⟩
    have e4 := mld_one y
    go_wp2_with fail
    refine (Swap_c _ _ _ _ _ _ _ _ s4).mono ?_
    rintro e w5 ⟨rfl, s5, u5⟩
    rw [mswap_one_yes] at s5
    have e5 : mswapped [y] 0 y = true := by rw [mswapped_one]; simp
    go_wp2_with fail
    refine (Swap_c _ _ _ _ _ _ _ _ s5).mono ?_
    rintro e w6 ⟨rfl, s6, u6⟩
    have e6 : mswapped [a] 1 0 = false := rfl
    have e6' : mswap [a] 1 0 a = [a] := rfl
    rw [e6'] at s6
    have e1 := mld_one a
    go_wp2_with (first | (go_at_call 13; refine (pick_c _ _ _ _).mono ?_; rintro e w' ⟨rfl, rfl⟩) | (go_at_call 12; refine (Load_c _ _ _ _ _ _ s6).mono ?_; rintro e w7 ⟨rfl, s7, u7⟩))
    go_ret
    exact ⟨rfl, Upd.below_from b1' (((((u2.trans u3).trans u4).trans u5).trans u6).trans u7) (by simp; omega)⟩
  · rintro e w3 ⟨rfl, s3, u3⟩
    have hx' : ¬ x = a := fun h => hx h.symm
    rw [mswap_one_no _ _ _ hx'] at s3
    have e3 : mswapped [x] 0 a = false := by rw [mswapped_one]; simpa using hx'
    have hb : (a == x) = false := by simpa using hx
    go_wp2_with fail
    refine (Load_c _ _ _ _ _ _ s3).mono ?_
    rintro e w4 ⟨rfl, s4, u4⟩
    have e4 := mld_one x
    go_wp2_with fail
    refine (Swap_c _ _ _ _ _ _ _ _ s4).mono ?_
    rintro e w5 ⟨rfl, s5, u5⟩
    rw [mswap_one_yes] at s5
    have e5 : mswapped [x] 0 x = true := by rw [mswapped_one]; simp
    go_wp2_with fail
    refine (Swap_c _ _ _ _ _ _ _ _ s5).mono ?_
    rintro e w6 ⟨rfl, s6, u6⟩
    have e6 : mswapped [a] 1 0 = false := rfl
    have e6' : mswap [a] 1 0 x = [a] := rfl
    rw [e6'] at s6
    have e1 := mld_one a
    go_wp2_with (first | (go_at_call 13; refine (pick_c _ _ _ _).mono ?_; rintro e w' ⟨rfl, rfl⟩) | (go_at_call 12; refine (Load_c _ _ _ _ _ _ s6).mono ?_; rintro e w7 ⟨rfl, s7, u7⟩))
    go_ret
    exact ⟨rfl, Upd.below_from b1' (((((u2.trans u3).trans u4).trans u5).trans u6).trans u7) (by simp; omega)⟩

/-- The sum of the first k words, round the end of all numbers. -/
def usum (l : List Int) (k : Nat) : Int := IntKind.u64.wrap (l.take k).sum

theorem usum_succ (l : List Int) (k : Nat) (y : Int) (h : l[k]? = some y) : IntKind.u64.wrap (usum l k + y) = usum l (k + 1) := by
  unfold usum
  obtain ⟨h1, h2⟩ := List.getElem?_eq_some_iff.1 h
  rw [List.take_succ_eq_append_getElem h1, List.sum_append, h2]
  simp only [IntKind.wrap_u64, List.sum_singleton]
  omega

def rot (l : List Int) (t : Nat) : List Int := l.drop (t % l.length) ++ l.take (t % l.length)

theorem rot_length (l : List Int) (t : Nat) (h : 0 < l.length) : (rot l t).length = l.length := by
  have := Nat.mod_lt t h
  unfold rot
  simp
  omega

theorem rot_sum (l : List Int) (t : Nat) : (rot l t).sum = l.sum := by
  unfold rot
  rw [List.sum_append]
  conv => rhs; rw [← List.take_append_drop (t % l.length) l]
  rw [List.sum_append]
  omega

theorem rot_get (l : List Int) (t k : Nat) (hk : k < l.length) : (rot l t)[k]? = l[(k + t) % l.length]? := by
  have hm := Nat.mod_lt t (show 0 < l.length by omega)
  have e : (k + t) % l.length = (k + t % l.length) % l.length := by simp [Nat.add_mod]
  unfold rot
  rw [e]
  generalize t % l.length = m at *
  rw [List.getElem?_append]
  split
  · rename_i h
    simp at h
    rw [List.getElem?_drop, Nat.mod_eq_of_lt (by omega), Nat.add_comm]
  · rename_i h
    simp at h
    rw [List.getElem?_take, Nat.mod_eq_sub_mod (by omega), Nat.mod_eq_of_lt (by omega), List.length_drop, if_pos (by omega)]
    congr 1
    omega

theorem rot_fact (l : List Int) (t k : Nat) (hk : k < l.length) : ∃ (idx : Nat) (y : Int), ((k : Int) + (t : Int)) % (l.length : Int) = (idx : Int) ∧ idx < l.length ∧ l[idx]? = some y ∧ IntKind.u64.wrap (usum (rot l t) k + y) = usum (rot l t) (k + 1) := by
  have hm := Nat.mod_lt (k + t) (show 0 < l.length by omega)
  refine ⟨(k + t) % l.length, l[(k + t) % l.length], ?_, hm, by simp [hm], usum_succ _ _ _ ?_⟩
  · rw [← Int.natCast_add, ← Int.natCast_emod]
  · rw [rot_get _ _ _ hk]; simp [hm]

theorem notin2 {a b c : Nat} (h : a ≠ b) (h' : a ≠ c) : a ∉ [b, c] := by simp [h, h']

theorem walk_CellsAdd (a : Option Addr) (len cap : Nat) (zs : List Int) (t : Int) (w : World) (hr : IsRow .u64 w a len cap zs) (t0 : 0 ≤ t) (t1 : t < 256) :
    Calls Try.prog 4 #[.slice a len cap, .int .u8 t] w fun e w' => e = .returned (.bool true) ∧ Below w.heap.size w w' := by
  obtain ⟨tn, rfl⟩ := Int.eq_ofNat_of_zero_le t0
  have hsl := sl_of_row hr
  have hlen : (zs.take len).length = len := by
    rcases hr with ⟨_, rfl, _, rfl⟩ | ⟨x, _, hl, _, hz, _⟩
    · rfl
    · rw [List.length_take]; omega
  generalize zs.take len = l at hsl hlen
  subst hlen
  clear hr
  by_cases hbig : (60 : Int) < (l.length : Int)
  · go_enter Try.func4, Try.ntmps4
    go_wp2_with (go_at_call 9; refine (awake6 _).mono ?_ ; rintro e w0 ⟨rfl, b0⟩)
    go_ret
    exact ⟨rfl, b0⟩
  have hbig' : decide ((60 : Int) < (l.length : Int)) = false := by simpa using hbig
  by_cases hz : l = []
  · subst hz
    go_enter Try.func4, Try.ntmps4
    go_wp2_with (go_at_call 9; refine (awake6 _).mono ?_ ; rintro e w0 ⟨rfl, b0⟩)
    go_ret
    exact ⟨rfl, b0⟩
  have hpos : 0 < l.length := List.length_pos_iff.2 hz
  have hz' : ((l.length : Int) == 0) = false := by rw [beq_eq_false_iff_ne]; omega
  have hz2 : ¬ l = [] := hz
  have Z := Lib.hid hz
  clear hz hz2
  go_enter Try.func4, Try.ntmps4
  go_wp2_with (go_at_call 9; refine (awake6 _).mono ?_ ; rintro e w0 ⟨rfl, b0⟩)
  have z0 := b0.size
  refine (New_c _ _ _ (sl_one w0 0 0) (by simp)).mono ?_
  rintro e w1 ⟨sb, g, rfl, hsb, hg, hlt, hltg, s1, b1⟩
  have b1' := b0.trans ((below_box w0 (.cells #[.int .u64 0] 22) 0).trans (b1.mono (by simp))|>.mono z0)
  have hsb' : w.heap.size ≤ sb := by simp at hsb; omega
  have hg' : w.heap.size ≤ g := by simp at hg; omega
  have z1 := b1'.size
  clear b1 b0 hsb hg
  have hg1 : l ≠ [] → True := fun _ => trivial
  go_wp2_with fail
  refine (New_c _ _ _ (sl_one w1 0 0) (by simp)).mono ?_
  rintro e w2 ⟨tb, h, rfl, htb, hh, hlt2, hltg2, t1, b2⟩
  have b2' := (below_box w1 (.cells #[.int .u64 0] 22) 0).trans (b2.mono (by simp))
  simp at htb hh
  have s2 := store_upd s1 (Upd.of_below (S := []) b2') (by simp) (by simp)
  have b3 := b1'.trans (b2'.mono z1)
  have hlt1 := hlt
  have hlt1'' := hltg
  have hsl2 : Sl w2 [sb, g, tb, h] .u64 (.slice a l.length cap) l := sl_upd (S := []) hsl (Upd.of_below b3) (by simp) (by simp; omega)
  have z2 := b3.size
  clear b2 b2' hg1 s1 b1' hlt hlt2 hltg
  have hn1 : tb ∉ [sb, g] := notin2 (by omega) (by omega)
  have hn2 : h ∉ [sb, g] := notin2 (by omega) (by omega)
  have hn3 : sb ∉ [tb, h] := notin2 (by omega) (by omega)
  have hn4 : g ∉ [tb, h] := notin2 (by omega) (by omega)
  go_wp2_with fail
  go_loopw [8, 9] (fun sv iv wr => ∃ (k : Nat) (n m : Int), k ≤ l.length ∧ sv = .int .u64 (usum l k) ∧ iv = .int .i64 k ∧ StoreAt wr sb g [usum l k] n ∧ StoreAt wr tb h [usum (rot l tn) k] m ∧ Upd [sb, g, tb, h] w2 wr) (fun _ i _ => l.length - (intOf i).toNat)
  case atStart => exact ⟨0, 0, 0, Nat.zero_le _, rfl, rfl, s2, t1, Upd.refl _ _⟩
  case round =>
    obtain ⟨k, n, m, hk, rfl, rfl, sk, tk, uk⟩ := hrel
    have hslk : Sl wr [sb, g, tb, h] .u64 (.slice a l.length cap) l := sl_upd hsl2 uk (fun x hx => .inl hx) (fun x hx => .inl hx)
    by_cases hlt : k < l.length
    · obtain ⟨b, off, rfl, hbw, hnb, hcell⟩ := sl_at hslk Z.out
      have hb2 : b ∉ [sb, g] := fun hm => hnb (by simp at hm ⊢; omega)
      obtain ⟨idx, y2, eidx, hidx, hy2, g2⟩ := rot_fact l tn k hlt
      have c1 := hcell k l[k] (by simp [hlt])
      have c2 := hcell idx y2 hy2
      have g1 := usum_succ l k l[k] (by simp [hlt])
      clear hcell hnb hslk hy2
      generalize l[k] = y1 at *
      have G1 := Lib.hid g1
      have G2 := Lib.hid g2
      have C2 := Lib.hid c2
      clear g1 g2 c2
      go_wp2_with fail
      refine (Add_c _ _ _ _ _ _ _ sk).mono ?_
      rintro e w3 ⟨rfl, s3, u3⟩
      have t3 := store_upd tk u3 hn1 hn2
      rw [madd_one, G1.out] at s3
      have e3 := mld_one (usum l k)
      have c2' : w3.cell? ⟨b, off + idx, none⟩ = some (.int .u64 y2) := by
        rw [World.cell?_of_block (w := wr) (u3.block b hbw hb2)]; exact C2.out
      have c1' : w3.cell? ⟨b, off + k, none⟩ = some (.int .u64 y1) := by
        rw [World.cell?_of_block (w := wr) (u3.block b hbw hb2)]; exact c1
      have G1' := G1.out
      clear c1
      go_wp2_with fail
      refine (Add_c _ _ _ _ _ _ _ t3).mono ?_
      rintro e w4 ⟨rfl, t4, u4⟩
      have s4 := store_upd s3 u4 hn3 hn4
      rw [madd_one, G2.out] at t4
      clear G1'
      have G1' := G1.out
      go_wp2_with fail
      go_roundw
      case rel => exact ⟨k + 1, _, _, by omega, rfl, by go_num, s4, t4, (uk.trans (u3.mono (by simp))).trans (u4.mono (by simp))⟩
      case measure => simp [intOf]; omega
    · have hlt' : (l.length : Int) ≤ (k : Int) := by omega
      obtain rfl : k = l.length := by omega
      have E := Lib.hid (show usum (rot l tn) l.length = usum l l.length by unfold usum; rw [List.take_of_length_le (Nat.le_refl _), List.take_of_length_le (by rw [rot_length _ _ hpos]; exact Nat.le_refl _), rot_sum])
      clear hlt hk
      rw [E.out] at tk
      go_wp2_with fail
      refine (Load_c _ _ _ _ _ _ sk).mono ?_
      rintro e w3 ⟨rfl, s3, u3⟩
      have t3 := store_upd tk u3 hn1 hn2
      have e3 := mld_one (usum l l.length)
      go_wp2_with fail
      refine (Load_c _ _ _ _ _ _ t3).mono ?_
      rintro e w4 ⟨rfl, t4, u4⟩
      go_wp2_with fail
      go_ret
      exact ⟨rfl, Upd.below_from b3 ((uk.trans (u3.mono (by simp))).trans (u4.mono (by simp))) (by simp; omega)⟩
end Go.Proofs.Ytmbffmgjjdihjaa
