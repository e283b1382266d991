/- The document's example of layer 9, walked; rows of places. No condition. -/
import Derived.Test.YtaciapjohakpgaaWalk9c
import Derived.LoopN
set_option linter.unusedVariables false
namespace Go.Proofs.Ytaciapjohakpgaa
open Go.ChangeShapes Go.WideShapes Go.ChangeAt Go.RowKit

def rowL (n : Nat) : List Int := (List.range n).map (fun i : Nat => (i : Int) + 1)

theorem rowL_succ (n : Nat) : rowL (n + 1) = rowL n ++ [(n : Int) + 1] := by simp [rowL, List.range_succ]
theorem rowL_len (n : Nat) : (rowL n).length = n := by simp [rowL]

theorem Row_c (n : Nat) (w : World) (hn : n < 1000000) :
    Calls Try.prog 20 #[.int .i64 n] w fun e w' => ∃ v, e = .returned v ∧ OwnI w' w.heap.size 3 .i64 v (rowL n) ∧ Below w.heap.size w w' := by
  go_enter Try.func20, Try.ntmps20
  go_wp2_with fail
  go_loopw [3, 4] (fun ov iv wr => ∃ k : Nat, k ≤ n ∧ iv = .int .i64 ((k : Int) + 1) ∧ OwnI wr w.heap.size 3 .i64 ov (rowL k) ∧ Below w.heap.size w wr) (fun _ i _ => n + 1 - (intOf i).toNat)
  case atStart => exact ⟨0, Nat.zero_le _, rfl, ownI_nil _ _ _ _, Below.refl _ _⟩
  case round =>
    obtain ⟨k, hk, rfl, hown, hb⟩ := hrel
    obtain ⟨oa, oc, rfl⟩ := own_slice hown
    have ON := Lib.hid hown
    have HB := Lib.hid hb
    by_cases hlt : k < n
    · have h1 : (k : Int) + 1 ≤ (n : Int) := by omega
      have hkk : wrap64 ((k : Int) + 1 + 1) = (k : Int) + 1 + 1 := wrap64_id _ (by omega) (by omega)
      clear hown hb
      go_wp2_with (at_builtin; refine wpl_append_int rfl (.tmp 10) (.tmp 12) rfl el_int (by decide) w.heap.size (.slice oa (rowL k).length oc) (rowL k) rfl ON.out _ rfl (by rw [rowL_len]; omega) HB.out.size ?_; intro v1 w1 hown1 hgrow)
      have hb1 := below_grown_own HB.out ON.out hgrow HB.out.size
      have hown2 : OwnI w1 w.heap.size 3 .i64 v1 (rowL (k + 1)) := by rw [rowL_succ]; exact hown1
      clear hgrow hown1
      go_roundw
      case rel => exact ⟨k + 1, by omega, by first | go_num | (simp), hown2, hb1⟩
      case measure => simp [intOf]; omega
    · have h1 : decide ((k : Int) + 1 ≤ (n : Int)) = false := by simp; omega
      have hkn : k = n := by omega
      have E := Lib.hid hkn
      clear hkn
      go_wp2_with fail
      go_ret
      exact ⟨_, rfl, by rw [← E.out]; exact hown, hb⟩

/-- A machine, a Store and links, all there. -/
structure Bun (w : World) (sb g mb lb : Nat) (l ls : List Int) (n : Int) (m : Mac) : Prop where
  store : StoreAt w sb g l n
  mach : MachAt w mb lb m
  apart : mb ∉ [sb, g]
  ws : Ws l
  ok : MacOk m
  links : LinksAt w [sb, g, mb] lb ls
  len : ls.length < 1000000000000

theorem Step_b (sb g mb lb : Nat) (l ls : List Int) (n : Int) (m : Mac) (w : World) (h : Bun w sb g mb lb l ls n m) :
    Calls Try.prog 18 #[.pointer (some ⟨mb, 0, none⟩), .pointer (some ⟨sb, 0, none⟩)] w fun e w' => e = .returned (.bool ((mstep ls l m).2.pc == 0)) ∧
      Bun w' sb g mb lb (mstep ls l m).1 ls (mcount m n) (mstep ls l m).2 ∧ Upd [sb, g, mb] w w' := by
  refine (Step_c sb g mb lb l ls n m w h.store h.mach h.apart h.ws h.ok h.links h.len).mono ?_
  rintro e w' ⟨rfl, h1, h2, h3⟩
  have := mstep_ok ls l m h.ws h.ok
  exact ⟨rfl, ⟨h2, h1, h.apart, this.1, this.2, links_upd h.links h3 (fun y hy => .inl hy) (fun y hy => .inl hy), h.len⟩, h3⟩

/-- Step, whose outcome is known. -/
theorem Step_k (sb g mb lb : Nat) (l ls l' : List Int) (n : Int) (m m' : Mac) (w : World) (h : Bun w sb g mb lb l ls n m) (he : mstep ls l m = (l', m')) :
    Calls Try.prog 18 #[.pointer (some ⟨mb, 0, none⟩), .pointer (some ⟨sb, 0, none⟩)] w fun e w' => e = .returned (.bool (m'.pc == 0)) ∧
      Bun w' sb g mb lb l' ls (mcount m n) m' ∧ Upd [sb, g, mb] w w' := by
  have := Step_b sb g mb lb l ls n m w h
  rw [he] at this
  exact this

theorem bun_upd {w w' : World} {sb g mb lb : Nat} {l ls : List Int} {n : Int} {m : Mac} (h : Bun w sb g mb lb l ls n m) (u : Below w.heap.size w w') : Bun w' sb g mb lb l ls n m :=
  ⟨store_upd (S := []) h.store (Upd.of_below u) (by simp) (by simp), mach_upd (S := []) h.mach (Upd.of_below u) (by simp), h.apart, h.ws, h.ok, links_upd (S := []) h.links (Upd.of_below u) (by simp) (fun y hy => .inl hy), h.len⟩

/-- A new row of words that stand in the text. -/
theorem sl_lits (w : World) (xs : List Int) : Sl (w.alloc (.cells (xs.map (Value.int .u64)).toArray 37)) [] .u64 (.slice (some ⟨w.heap.size, 0, none⟩) xs.length xs.length) xs := by
  refine ⟨_, _, rfl, Nat.le_refl _, .inr ⟨w.heap.size, 0, rfl, by simp, by simp, fun j hj => ?_⟩⟩
  have hb : (w.alloc (.cells (xs.map (Value.int .u64)).toArray 37)).heap[w.heap.size]? = some (.cells (xs.map (Value.int .u64)).toArray 37 (0, 0)) := blk_new w _ 0
  rw [blk_cell hb]
  simp [hj]

theorem ex1 : mstep [1, 2, 3] [0, 0, 0, 0] (pushM 0 3) = ([0, 0, 0, 0], ⟨0, 3, 0, 2, 0, 1⟩) := by
  have e : wrap64 (0 + 1) = 1 := wrap64_id 1 (by decide) (by decide)
  show (_, Mac.mk _ _ _ _ _ (wrap64 (0 + 1))) = _
  rw [e]; rfl
theorem ex2 : mstep [1, 2, 3] [0, 0, 0, 0] ⟨0, 3, 0, 2, 0, 1⟩ = ([0, 0, 0, 0], ⟨0, 3, 0, 3, 0, 1⟩) := by rfl
theorem ex3 : mstep [1, 2, 3] [0, 0, 0, 0] ⟨0, 3, 0, 3, 0, 1⟩ = ([4294967299, 0, 0, 0], ⟨0, 3, 0, 0, 0, 1⟩) := by rfl
theorem ex4 : mstep [1, 2, 3] [4294967299, 0, 0, 0] (popM 0) = ([4294967299, 0, 0, 0], ⟨0, 3, 4294967299, 5, 0, 1⟩) := by
  have e : wrap64 (0 + 1) = 1 := wrap64_id 1 (by decide) (by decide)
  show (_, Mac.mk _ _ _ _ _ (wrap64 (0 + 1))) = _
  rw [e]; rfl
theorem ex5 : mstep [1, 2, 3] [4294967299, 0, 0, 0] ⟨0, 3, 4294967299, 5, 0, 1⟩ = ([4294967299, 0, 0, 0], ⟨0, 3, 4294967299, 6, 0, 1⟩) := by rfl
theorem ex6 : mstep [1, 2, 3] [4294967299, 0, 0, 0] ⟨0, 3, 4294967299, 6, 0, 1⟩ = ([8589934592, 0, 0, 0], ⟨0, 3, 4294967299, 0, 0, 1⟩) := by rfl
theorem ex7 : mstep [1, 2, 3] [8589934592, 0, 0, 0] (popM 0) = ([8589934592, 0, 0, 0], ⟨0, 0, 8589934592, 0, 0, 1⟩) := by
  have e : wrap64 (0 + 1) = 1 := wrap64_id 1 (by decide) (by decide)
  show (_, Mac.mk _ _ _ _ _ (wrap64 (0 + 1))) = _
  rw [e]; rfl
theorem ex8 : walkF [1, 2, 3] [2, 0, 3, 0] 9 0 = [2, 3] := by rfl

theorem awake9 (w : World) : Calls Try.prog 8 #[] w fun e w' => e = .returned (.bool true) ∧ Below w.heap.size w w' := by
  go_enter Try.func8, Try.ntmps8
  go_wp2_with fail
  refine (New_c _ _ _ (sl_lits w [0, 0, 0, 0]) (by decide)).mono ?_
  rintro e w1 ⟨sb, g, rfl, hsb, hg, hlt, hltg, s1, b1⟩
  have b1' := (below_box w (.cells #[.int .u64 0, .int .u64 0, .int .u64 0, .int .u64 0] 37) 0).trans (b1.mono (by simp))
  have q1 : w.heap.size ≤ sb := by simp at hsb; omega
  have q2 : w.heap.size ≤ g := by simp at hg; omega
  clear b1 hsb hg
  go_wp2_with fail
  refine (Row_c 3 _ (by decide)).mono ?_
  rintro e w2 ⟨v2, rfl, hown2, b2⟩
  go_wp2_with fail
  have s2 := store_upd (S := []) s1 (Upd.of_below b2) (by simp) (by simp)
  have sl2 : Sl w2 [sb, g] .i64 v2 [1, 2, 3] := sl_of_new (slNew_of_own hown2) (by simp <;> omega)
  refine (Links_c (A := [sb, g]) _ _ _ (by have := b2.size; simp <;> omega) sl2).mono ?_
  rintro e w3 ⟨rfl, L3, b3⟩
  have s3 := store_upd (S := []) s2 (Upd.of_below b3) (by simp) (by simp)
  have z2 := b2.size
  have z3 := b3.size
  go_wp2_with fail
  refine (Push_c w2.heap.size 0 3 _ (by decide) (by decide)).mono ?_
  rintro e w4 ⟨rfl, m4, z4, b4⟩
  have u4 := Upd.of_below (S := []) b4
  have B4 : Bun w4 sb g w3.heap.size w2.heap.size [0, 0, 0, 0] [1, 2, 3] 0 (pushM 0 3) := ⟨store_upd s3 u4 (by simp) (by simp), m4, by simp <;> omega, by intro x hx; simp at hx; omega, pushM_ok _ _, links_upd L3 u4 (by simp) (by simp), by decide⟩
  have b04 := ((b1'.trans (b2.mono b1'.size)).trans (b3.mono (by have := b1'.size; omega))).trans (b4.mono (by have := b1'.size; omega))
  clear m4 u4 s3 L3 sl2 s2 hown2 s1 b2 b3 b1'
  go_wp2_with fail
  refine wp_loop_rounds 3 ?_
  rw [rounds_succ]
  go_wp2_with fail
  refine (Step_k _ _ _ _ _ _ _ _ _ _ _ B4 ex1).mono ?_
  rintro e w5 ⟨rfl, B5, u5⟩
  go_wp2_with fail
  rw [rounds_succ]
  go_wp2_with fail
  refine (Step_k _ _ _ _ _ _ _ _ _ _ _ B5 ex2).mono ?_
  rintro e w6 ⟨rfl, B6, u6⟩
  go_wp2_with fail
  rw [rounds_succ]
  go_wp2_with fail
  refine (Step_k _ _ _ _ _ _ _ _ _ _ _ B6 ex3).mono ?_
  rintro e w7 ⟨rfl, B7, u7⟩
  go_wp2_with fail
  have L7 := links_upd (A' := [sb, g]) B7.links (Upd.refl [] _) (by simp) (fun y hy => .inl (by simp at hy ⊢; omega))
  have u47 := (u5.trans u6).trans u7
  have z7 := u47.size
  refine (Pop_c w2.heap.size 0 _).mono ?_
  rintro e w8 ⟨rfl, m8, z8, b8⟩
  have u8 := Upd.of_below (S := []) b8
  have B8 : Bun w8 sb g w7.heap.size w2.heap.size [4294967299, 0, 0, 0] [1, 2, 3] _ (popM 0) := ⟨store_upd B7.store u8 (by simp) (by simp), m8, by simp <;> omega, by intro x hx; simp at hx; omega, popM_ok _, links_upd B7.links u8 (by simp) (by simp <;> omega), by decide⟩
  have A8 := mach_upd B7.mach u8 (by simp)
  have b08 := (Upd.below_from b04 u47 (by simp <;> omega)).trans (b8.mono (by have := b04.size; omega))
  clear u5 u6 u7 B4 B5 B6 B7 L7 m8 u8 b8 b04
  go_wp2_with fail
  refine wp_loop_rounds 3 ?_
  rw [rounds_succ]
  go_wp2_with fail
  refine (Step_k _ _ _ _ _ _ _ _ _ _ _ B8 ex4).mono ?_
  rintro e w9 ⟨rfl, B9, u9⟩
  go_wp2_with fail
  rw [rounds_succ]
  go_wp2_with fail
  refine (Step_k _ _ _ _ _ _ _ _ _ _ _ B9 ex5).mono ?_
  rintro e w10 ⟨rfl, B10, u10⟩
  go_wp2_with fail
  rw [rounds_succ]
  go_wp2_with fail
  refine (Step_k _ _ _ _ _ _ _ _ _ _ _ B10 ex6).mono ?_
  rintro e w11 ⟨rfl, B11, u11⟩
  go_wp2_with fail
  have u811 := (u9.trans u10).trans u11
  have A11 := mach_upd A8 u811 (by simp <;> omega)
  have z11 := u811.size
  refine (Pop_c w2.heap.size 0 _).mono ?_
  rintro e w12 ⟨rfl, m12, z12, b12⟩
  have u12 := Upd.of_below (S := []) b12
  have B12 : Bun w12 sb g w11.heap.size w2.heap.size [8589934592, 0, 0, 0] [1, 2, 3] _ (popM 0) := ⟨store_upd B11.store u12 (by simp) (by simp), m12, by simp <;> omega, by intro x hx; simp at hx; omega, popM_ok _, links_upd B11.links u12 (by simp) (by simp <;> omega), by decide⟩
  have A12 := mach_upd A11 u12 (by simp)
  have P12 := mach_upd B11.mach u12 (by simp)
  have b012 := (Upd.below_from b08 u811 (by simp <;> omega)).trans (b12.mono (by have := b08.size; omega))
  clear u9 u10 u11 B8 B9 B10 B11 m12 u12 b12 b08 A8 A11
  go_wp2_with fail
  refine (Step_k _ _ _ _ _ _ _ _ _ _ _ B12 ex7).mono ?_
  rintro e w13 ⟨rfl, B13, u13⟩
  have A13 := mach_upd A12 u13 (by simp <;> omega)
  have P13 := mach_upd P12 u13 (by simp <;> omega)
  have b013 := Upd.below_from b012 u13 (by simp <;> omega)
  clear u13 A12 P12 b012 B12
  go_wp2_with fail
  refine (Item_c _ _ _ _ A13 (by unfold MacOk; decide)).mono ?_
  rintro e w14 ⟨rfl, hw⟩
  obtain rfl := hw.symm
  go_wp2_with fail
  refine (Item_c _ _ _ _ P13 (by unfold MacOk; decide)).mono ?_
  rintro e w14 ⟨rfl, hw⟩
  obtain rfl := hw.symm
  go_wp2_with fail
  refine (Item_c _ _ _ _ B13.mach (by unfold MacOk; decide)).mono ?_
  rintro e w14 ⟨rfl, hw⟩
  obtain rfl := hw.symm
  go_wp2_with fail
  refine (Tries_c _ _ _ _ B13.mach).mono ?_
  rintro e w14 ⟨rfl, hw⟩
  obtain rfl := hw.symm
  go_wp2_with fail
  refine (Walk_c (A := []) _ _ _ _ _ _ _ _ (sl_lits w13 [2, 0, 3, 0]) (links_upd (S := []) B13.links ((Upd.refl [] _).alloc _) (by simp) (by simp)) (by decide) (by decide)).mono ?_
  rintro e w14 ⟨v14, rfl, hown, _, b14⟩
  obtain ⟨oa, oc, rfl⟩ := own_slice hown
  go_wp2_with fail
  go_ret
  exact ⟨rfl, (b013.alloc b013.size _).trans (b14.mono (by have := b013.size; simp <;> omega))⟩

end Go.Proofs.Ytaciapjohakpgaa
