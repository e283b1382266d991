/- The walk of CellsPlays: it answers true, and nothing that was there is changed. No condition but that the arguments can be read. -/
import Derived.Test.YtmbffmgjjdihjaaLaw6c
import Derived.Deep.RegionHeld3
import Derived.LoopN
set_option linter.unusedVariables false
namespace Go.Proofs.Ytmbffmgjjdihjaa
open Go.ChangeShapes Go.WideShapes Go.ChangeAt Go.RowKit

/-- What CellsPlays is told of its acts: each has its four numbers at its place. -/
def ActAt (w : World) (b o : Nat) (d at_ old x : Int) : Prop :=
  w.cell? ⟨b, o, none⟩ = some (.int .u8 d) ∧ w.cell? ⟨b, o + 1, none⟩ = some (.int .i64 at_) ∧ w.cell? ⟨b, o + 2, none⟩ = some (.int .u64 old) ∧ w.cell? ⟨b, o + 3, none⟩ = some (.int .u64 x)

theorem acts_at {w : World} {v : Value} {len : Nat} (h : IsRows [.int .u8, .int .i64, .int .u64, .int .u64] w v len) (hn : 0 < len) : ∃ b off cap, v = .slice (some ⟨b, off, none⟩) len cap ∧ b < w.heap.size ∧ ∀ i, i < len → ∃ d at_ old x, 0 ≤ d ∧ ActAt w b (off + i * 4) d at_ old x := by
  obtain ⟨b, off, cap, hv, hb, hr⟩ := rows_at h hn (by decide)
  refine ⟨b, off, cap, hv, hb, fun i hi => ?_⟩
  obtain ⟨vs, hs, hc⟩ := hr i hi
  obtain ⟨p, q, r, s, rfl, ⟨d, rfl, wd⟩, ⟨at_, rfl, _⟩, ⟨old, rfl, _⟩, ⟨x, rfl, _⟩⟩ := scal4 hs
  exact ⟨d, at_, old, x, (Go.bounds_u8 wd).1, hc 0 (by decide), hc 1 (by decide), hc 2 (by decide), hc 3 (by decide)⟩

theorem actAt_upd {w w' : World} {b o : Nat} {d at_ old x : Int} {S : List Nat} (h : ActAt w b o d at_ old x) (hb : b < w.heap.size) (u : Upd S w w') (hn : b ∉ S) : ActAt w' b o d at_ old x := by
  have e := fun p : Nat => World.cell?_of_block (w := w) (w' := w') (a := ⟨b, p, none⟩) (u.block b hb hn)
  exact ⟨by rw [e]; exact h.1, by rw [e]; exact h.2.1, by rw [e]; exact h.2.2.1, by rw [e]; exact h.2.2.2⟩

set_option maxRecDepth 100000 in
set_option maxHeartbeats 8000000 in
theorem plays_load (l : List Int) (a : Option Addr) (cap : Nat) (b off len cap' : Nat) (w : World) (hsl : Sl w [] .u64 (.slice a l.length cap) l) (hb : b < w.heap.size)
    (hacts : ∀ i, i < len → ∃ d at_ old x, 0 ≤ d ∧ ActAt w b (off + i * 4) d at_ old x) (h1 : ¬ (100 : Int) < (l.length : Int)) (h2 : ¬ (100 : Int) < (len : Int)) :
    Calls Try.prog 5 #[.slice a l.length cap, .slice (some ⟨b, off, none⟩) len cap'] w fun e w' => e = .returned (.bool true) ∧ Below w.heap.size w w' := by
  have g1 : decide ((100 : Int) < (l.length : Int)) = false := by simpa using h1
  have g2 : decide ((100 : Int) < (len : Int)) = false := by simpa using h2
  have hl12 : l.length < 1000000000000 := by omega
  have HA := Lib.hid hacts
  clear hacts
  go_enter Try.func5, Try.ntmps5
  go_wp2_with fail
  refine (awake6 w).mono ?_
  rintro e w0 ⟨rfl, b0⟩
  have hsl0 := sl_below hsl b0
  clear hsl
  go_wp2_with fail
  refine (New_c _ _ _ hsl0 hl12).mono ?_
  rintro e w1 ⟨sb, g, rfl, hsb, hg, hlt, hltg, s1, b1⟩
  have q1 : w.heap.size ≤ sb := by have := b0.size; omega
  have q2 : w.heap.size ≤ g := by have := b0.size; omega
  have b01 := b0.trans (b1.mono b0.size)
  have hm : Sl w1 [sb, g] .u64 (.slice a l.length cap) l := sl_upd (S := []) hsl0 (Upd.of_below b1) (by simp) (by simp; omega)
  have z1 := b01.size
  clear b0 b1 hsl0 hsb hg
  go_wp2_with fail
  go_loopw [7, 9] (fun mv iv wr => ∃ (k : Nat) (l' : List Int), k ≤ len ∧ iv = .int .i64 k ∧ l'.length = l.length ∧ Sl wr [sb, g] .u64 mv l' ∧ StoreAt wr sb g l' k ∧ Below w.heap.size w wr ∧ w1.heap.size ≤ wr.heap.size) (fun _ i _ => len - (intOf i).toNat)
  case atStart => exact ⟨0, l, Nat.zero_le _, rfl, rfl, hm, s1, b01, Nat.le_refl _⟩
  case round =>
    obtain ⟨k, l', hk, rfl, hlen, mk, sk, bk, zk⟩ := hrel
    obtain ⟨ma, mc, rfl, _, _⟩ := id mk
    have hlen' := Lib.hid hlen
    have le1 : l'.length ≤ l.length := by omega
    have le2 : l.length ≤ l'.length := by omega
    clear hlen
    by_cases hlt : k < len
    · obtain ⟨d, at_, old, x, hd0, hact⟩ := HA.out k hlt
      obtain ⟨c0, c1, c2, c3⟩ := actAt_upd (S := []) hact hb (Upd.of_below bk) (by simp)
      have i1 : (k : Int) < (len : Int) := by omega
      have wn : w.heap.size ≤ wr.heap.size := bk.size
      have n1 : wr.heap.size ∉ [sb, g] := notin2 (by omega) (by omega)
      obtain ⟨W, hW⟩ : ∃ W, W = wr.alloc (.cells #[.int .u8 d, .int .i64 at_, .int .u64 old, .int .u64 x] 35) := ⟨_, rfl⟩
      have uW : Upd [] wr W := by rw [hW]; exact (Upd.refl _ _).alloc _
      have bx : W.heap[wr.heap.size]? = some (.cells #[.int .u8 d, .int .i64 at_, .int .u64 old, .int .u64 x] 35 (0, 0)) := by rw [hW]; exact blk_new wr _ 0
      have bk' : Below w.heap.size w W := by rw [hW]; exact bk.alloc wn _
      have HW := Lib.hid hW
      clear hW
      have sk' := store_upd sk uW (by simp) (by simp)
      have mk' : Sl W [sb, g, wr.heap.size] .u64 (.slice ma l'.length mc) l' := sl_upd mk uW (by simp) (fun y hy => by simp at hy ⊢; omega)
      have bl := blk_lt bx
      have BX := Lib.hid bx
      clear bx
      have b3W := bk'
      by_cases hd : d = 0
      · subst hd
        have F := Lib.hid (show (mld l' at_ != mld l' at_) = false by simp)
        go_wp2_with fail
        rw [← HW.out]
        clear c0 c1 c2 c3
        obtain ⟨e0, e1, e2, e3, ef⟩ := row4 BX.out
        have e1' : W.drew.cell? ⟨wr.heap.size, 1, none⟩ = some (.int .i64 at_) := e1
        have bl' : wr.heap.size < W.drew.heap.size := bl
        have sk'' : StoreAt W.drew sb g l' k := sk'
        have mk'' : Sl W.drew [sb, g, wr.heap.size] .u64 (.slice ma l'.length mc) l' := mk'
        have b3d : Below w.heap.size w W.drew := b3W.drew
        go_region_held3 (fun w' => w'.cell? ⟨wr.heap.size, 1, none⟩ = some (.int .i64 at_)) (first | assumption | (simp; done)) (first | (go_at_call_of 12 (Value.pointer none); refine (Load_nil _ _).mono ?_; rintro e w4 ⟨rfl, hw⟩; obtain rfl := hw.symm) | (go_at_call 12; refine (Load_c _ _ _ _ _ _ sk'').mono ?_; rintro e w3 ⟨rfl, s3, u3⟩; have k3 := cell_upd e1' u3 bl' n1; have m3 : Sl w3 [sb, g, wr.heap.size] .u64 (.slice ma l'.length mc) l' := sl_upd mk'' u3 (fun y hy => .inl (by simp at hy ⊢; omega)) (fun y hy => .inl hy)) | (go_at_call 15; refine (RLoad_c _ _ _ _ m3).mono ?_; rintro e w4 ⟨rfl, hw⟩; obtain rfl := hw.symm))
        have b3 := Upd.below_from b3d u3 (by simp; omega)
        have z3 : w1.heap.size ≤ w3.heap.size := Nat.le_trans zk (Nat.le_trans uW.size u3.size)
        clear e0 e1 e2 e3 ef e1' sk'' mk'' b3d k3
        have LL := hlen'.out
        generalize l' = L at *
        go_wp2_with fail
        have hkk : wrap64 ((k : Int) + 1) = (k : Int) + 1 := wrap64_id _ (by omega) (by omega)
        rw [hkk] at s3
        clear hkk
        have L12 : L.length < 1000000000000 := by rw [LL]; omega
        have hne : ((L.length : Int) != (l.length : Int)) = false := by rw [LL]; simp
        have LH := Lib.hid LL
        clear LL
        refine (All_c _ _ _ _ _ s3 L12).mono ?_
        rintro e w5 ⟨v5, rfl, hv5, b5⟩
        have s5 := store_upd (S := []) s3 (Upd.of_below b5) (by simp) (by simp)
        have m5 := sl_below m3 b5
        have b05 := b3.trans (b5.mono b3.size)
        have z5 := b5.size
        have x5 := sl_of_new (A := []) hv5 (by simp)
        have f1 : (L == L) = true := by simp
        clear hv5 b5 b3 s3 m3
        go_wp2_with fail
        refine (RSame_c _ _ _ _ _ x5 m5 L12).mono ?_
        rintro e w6 ⟨rfl, dn, rfl⟩
        clear x5
        go_wp2_with (first | (go_at_call 22; refine (Count_c _ _ _ _ _ (store_drewN s5 _)).mono ?_; rintro e w7 ⟨rfl, hw⟩; obtain rfl := hw.symm) | (go_at_call 23; refine (Len_c _ _ _ _ _ (store_drewN s5 _)).mono ?_; rintro e w7 ⟨rfl, hw⟩; obtain rfl := hw.symm))
        go_roundw
        case rel => exact ⟨k + 1, L, by omega, by go_num, LH.out, sl_upd (S := []) (A' := [sb, g]) m5 ((Upd.refl _ _).drewN dn) (by simp) (fun y hy => .inl (by simp at hy ⊢; omega)), by have := store_drewN s5 dn; simpa using this, below_drewN b05 _, by simp; omega⟩
        case measure => simp [intOf]; omega
      have d0 : (d == 0) = false := by simpa using hd
      by_cases hd1 : d = 1
      · subst hd1
        go_wp2_with fail
        rw [← HW.out]
        clear c0 c1 c2 c3
        refine (Put_c _ _ _ _ _ _ _ sk').mono ?_
        rintro e w3 ⟨rfl, s3, u3⟩
        obtain ⟨e0, e1, e2, e3, ef⟩ := row4 (u3.blk BX.out n1)
        have m3 : Sl w3 [sb, g, wr.heap.size] .u64 (.slice ma l'.length mc) l' := sl_upd mk' u3 (fun y hy => .inl (by simp at hy ⊢; omega)) (fun y hy => .inl hy)
        have b3 := Upd.below_from b3W u3 (by simp; omega)
        go_wp2_with (go_at_call 16; refine (Put_nil _ _ _).mono ?_; rintro e w4 ⟨rfl, hw⟩; obtain rfl := hw.symm)
        refine (RPut_c _ _ _ _ _ (by have := store_lt s3; have := u3.size; simp; omega) m3 (by omega)).mono ?_
        rintro e w4 ⟨v4, rfl, m4, b4⟩
        have s4 := store_upd (S := []) s3 (Upd.of_below b4) (by simp) (by simp)
        have b4' := b3.trans (b4.mono b3.size)
        have z3 : w1.heap.size ≤ w4.heap.size := Nat.le_trans zk (Nat.le_trans uW.size (Nat.le_trans u3.size b4.size))
        clear e0 e1 e2 e3 ef m3 b3 s3 u3
        have LL : (mput l' at_ x).length = l.length := by rw [mput_length]; exact hlen'.out
        generalize mput l' at_ x = L at *
        have s3 := s4
        have m3 := m4
        have b3 := b4'
        clear s4 m4 b4' b4
        go_wp2_with fail
        have hkk : wrap64 ((k : Int) + 1) = (k : Int) + 1 := wrap64_id _ (by omega) (by omega)
        rw [hkk] at s3
        clear hkk
        have L12 : L.length < 1000000000000 := by rw [LL]; omega
        have hne : ((L.length : Int) != (l.length : Int)) = false := by rw [LL]; simp
        have LH := Lib.hid LL
        clear LL
        refine (All_c _ _ _ _ _ s3 L12).mono ?_
        rintro e w5 ⟨v5, rfl, hv5, b5⟩
        have s5 := store_upd (S := []) s3 (Upd.of_below b5) (by simp) (by simp)
        have m5 := sl_below m3 b5
        have b05 := b3.trans (b5.mono b3.size)
        have z5 := b5.size
        have x5 := sl_of_new (A := []) hv5 (by simp)
        have f1 : (L == L) = true := by simp
        clear hv5 b5 b3 s3 m3
        go_wp2_with fail
        refine (RSame_c _ _ _ _ _ x5 m5 L12).mono ?_
        rintro e w6 ⟨rfl, dn, rfl⟩
        clear x5
        go_wp2_with (first | (go_at_call 22; refine (Count_c _ _ _ _ _ (store_drewN s5 _)).mono ?_; rintro e w7 ⟨rfl, hw⟩; obtain rfl := hw.symm) | (go_at_call 23; refine (Len_c _ _ _ _ _ (store_drewN s5 _)).mono ?_; rintro e w7 ⟨rfl, hw⟩; obtain rfl := hw.symm))
        go_roundw
        case rel => exact ⟨k + 1, L, by omega, by go_num, LH.out, sl_upd (S := []) (A' := [sb, g]) m5 ((Upd.refl _ _).drewN dn) (by simp) (fun y hy => .inl (by simp at hy ⊢; omega)), by have := store_drewN s5 dn; simpa using this, below_drewN b05 _, by simp; omega⟩
        case measure => simp [intOf]; omega
      have d1 : (d == 1) = false := by simpa using hd1
      by_cases hd2 : d = 2
      · subst hd2
        have F := Lib.hid (show (mswapped l' at_ old != mswapped l' at_ old) = false by simp)
        go_wp2_with fail
        rw [← HW.out]
        clear c0 c1 c2 c3
        refine (RSwap_c _ _ _ _ _ _ (by have := store_lt sk'; have := uW.size; simp; omega) mk' (by omega)).mono ?_
        rintro e w4 ⟨v4, rfl, m4, b4⟩
        have s4 := store_upd (S := []) sk' (Upd.of_below b4) (by simp) (by simp)
        have bx4 := (b4.block _ bl).trans BX.out
        have b4' := b3W.trans (b4.mono b3W.size)
        obtain ⟨e0, e1, e2, e3, ef⟩ := row4 bx4
        go_wp2_with fail
        clear e0 e1 e2 e3 ef
        refine (Swap_c _ _ _ _ _ _ _ _ s4).mono ?_
        rintro e w3 ⟨rfl, s3, u3⟩
        obtain ⟨e0, e1, e2, e3, ef⟩ := row4 (u3.blk bx4 n1)
        have m3 : Sl w3 [sb, g, wr.heap.size] .u64 v4 (mswap l' at_ old x) := sl_upd m4 u3 (fun y hy => .inl (by simp at hy ⊢; omega)) (fun y hy => .inl hy)
        have b3 := Upd.below_from b4' u3 (by simp; omega)
        have z3 : w1.heap.size ≤ w3.heap.size := Nat.le_trans zk (Nat.le_trans uW.size (Nat.le_trans b4.size u3.size))
        have LL : (mswap l' at_ old x).length = l.length := by rw [← hlen'.out]; unfold mswap; split; exact mput_length _ _ _; rfl
        have F2 := F.out
        clear s4 m4 b4' b4 bx4
        generalize mswap l' at_ old x = L at *
        go_wp2_with (go_at_call 11; refine (Swap_nil _ _ _ _).mono ?_; rintro e w4 ⟨rfl, hw⟩; obtain rfl := hw.symm)
        clear e0 e1 e2 e3 ef F2
        have hkk : wrap64 ((k : Int) + 1) = (k : Int) + 1 := wrap64_id _ (by omega) (by omega)
        rw [hkk] at s3
        clear hkk
        have L12 : L.length < 1000000000000 := by rw [LL]; omega
        have hne : ((L.length : Int) != (l.length : Int)) = false := by rw [LL]; simp
        have LH := Lib.hid LL
        clear LL
        refine (All_c _ _ _ _ _ s3 L12).mono ?_
        rintro e w5 ⟨v5, rfl, hv5, b5⟩
        have s5 := store_upd (S := []) s3 (Upd.of_below b5) (by simp) (by simp)
        have m5 := sl_below m3 b5
        have b05 := b3.trans (b5.mono b3.size)
        have z5 := b5.size
        have x5 := sl_of_new (A := []) hv5 (by simp)
        have f1 : (L == L) = true := by simp
        clear hv5 b5 b3 s3 m3
        go_wp2_with fail
        refine (RSame_c _ _ _ _ _ x5 m5 L12).mono ?_
        rintro e w6 ⟨rfl, dn, rfl⟩
        clear x5
        go_wp2_with (first | (go_at_call 22; refine (Count_c _ _ _ _ _ (store_drewN s5 _)).mono ?_; rintro e w7 ⟨rfl, hw⟩; obtain rfl := hw.symm) | (go_at_call 23; refine (Len_c _ _ _ _ _ (store_drewN s5 _)).mono ?_; rintro e w7 ⟨rfl, hw⟩; obtain rfl := hw.symm))
        go_roundw
        case rel => exact ⟨k + 1, L, by omega, by go_num, LH.out, sl_upd (S := []) (A' := [sb, g]) m5 ((Upd.refl _ _).drewN dn) (by simp) (fun y hy => .inl (by simp at hy ⊢; omega)), by have := store_drewN s5 dn; simpa using this, below_drewN b05 _, by simp; omega⟩
        case measure => simp [intOf]; omega
      have d2 : (d == 2) = false := by simpa using hd2
      have F := Lib.hid (show (mld l' at_ != mld l' at_) = false by simp)
      go_wp2_with fail
      rw [← HW.out]
      clear c0 c1 c2 c3
      refine (RAdd_c _ _ _ _ _ (by have := store_lt sk'; have := uW.size; simp; omega) mk' (by omega)).mono ?_
      rintro e w4 ⟨v4, rfl, m4, b4⟩
      have s4 := store_upd (S := []) sk' (Upd.of_below b4) (by simp) (by simp)
      have bx4 := (b4.block _ bl).trans BX.out
      have b4' := b3W.trans (b4.mono b3W.size)
      obtain ⟨e0, e1, e2, e3, ef⟩ := row4 bx4
      go_wp2_with fail
      clear e0 e1 e2 e3 ef
      refine (Add_c _ _ _ _ _ _ _ s4).mono ?_
      rintro e w3 ⟨rfl, s3, u3⟩
      obtain ⟨e0, e1, e2, e3, ef⟩ := row4 (u3.blk bx4 n1)
      have m3 : Sl w3 [sb, g, wr.heap.size] .u64 v4 (madd l' at_ x) := sl_upd m4 u3 (fun y hy => .inl (by simp at hy ⊢; omega)) (fun y hy => .inl hy)
      have b3 := Upd.below_from b4' u3 (by simp; omega)
      have z3 : w1.heap.size ≤ w3.heap.size := Nat.le_trans zk (Nat.le_trans uW.size (Nat.le_trans b4.size u3.size))
      have LL : (madd l' at_ x).length = l.length := by rw [← hlen'.out]; exact mput_length _ _ _
      have F2 := F.out
      clear s4 m4 b4' b4 bx4
      generalize madd l' at_ x = L at *
      go_wp2_with (go_at_call 14; refine (Add_nil _ _ _).mono ?_; rintro e w4 ⟨rfl, hw⟩; obtain rfl := hw.symm)
      clear e0 e1 e2 e3 ef F2
      have hkk : wrap64 ((k : Int) + 1) = (k : Int) + 1 := wrap64_id _ (by omega) (by omega)
      rw [hkk] at s3
      clear hkk
      have L12 : L.length < 1000000000000 := by rw [LL]; omega
      have hne : ((L.length : Int) != (l.length : Int)) = false := by rw [LL]; simp
      have LH := Lib.hid LL
      clear LL
      refine (All_c _ _ _ _ _ s3 L12).mono ?_
      rintro e w5 ⟨v5, rfl, hv5, b5⟩
      have s5 := store_upd (S := []) s3 (Upd.of_below b5) (by simp) (by simp)
      have m5 := sl_below m3 b5
      have b05 := b3.trans (b5.mono b3.size)
      have z5 := b5.size
      have x5 := sl_of_new (A := []) hv5 (by simp)
      have f1 : (L == L) = true := by simp
      clear hv5 b5 b3 s3 m3
      go_wp2_with fail
      refine (RSame_c _ _ _ _ _ x5 m5 L12).mono ?_
      rintro e w6 ⟨rfl, dn, rfl⟩
      clear x5
      go_wp2_with (first | (go_at_call 22; refine (Count_c _ _ _ _ _ (store_drewN s5 _)).mono ?_; rintro e w7 ⟨rfl, hw⟩; obtain rfl := hw.symm) | (go_at_call 23; refine (Len_c _ _ _ _ _ (store_drewN s5 _)).mono ?_; rintro e w7 ⟨rfl, hw⟩; obtain rfl := hw.symm))
      go_roundw
      case rel => exact ⟨k + 1, L, by omega, by go_num, LH.out, sl_upd (S := []) (A' := [sb, g]) m5 ((Upd.refl _ _).drewN dn) (by simp) (fun y hy => .inl (by simp at hy ⊢; omega)), by have := store_drewN s5 dn; simpa using this, below_drewN b05 _, by simp; omega⟩
      case measure => simp [intOf]; omega
    · have hge : ¬ k < len := hlt
      go_wp2_with (first | (go_at_call 22; refine (Count_nil _).mono ?_; rintro e w7 ⟨rfl, hw⟩; obtain rfl := hw.symm) | (go_at_call 23; refine (Len_nil _).mono ?_; rintro e w7 ⟨rfl, hw⟩; obtain rfl := hw.symm) | (go_at_call 21; refine (All_nil _).mono ?_; rintro e w7 ⟨rfl, hw⟩; obtain rfl := hw.symm))
      go_ret
      exact ⟨rfl, bk⟩

set_option maxRecDepth 100000 in
set_option maxHeartbeats 1000000 in
/-- More words, or more acts, than the statement speaks of; and no acts at all. -/
theorem plays_other (l : List Int) (a : Option Addr) (cap : Nat) (a' : Option Addr) (len cap' : Nat) (w : World) (hsl : Sl w [] .u64 (.slice a l.length cap) l) (h : (100 : Int) < (l.length : Int) ∨ (100 : Int) < (len : Int)) :
    Calls Try.prog 5 #[.slice a l.length cap, .slice a' len cap'] w fun e w' => e = .returned (.bool true) ∧ Below w.heap.size w w' := by
  by_cases h1 : (100 : Int) < (l.length : Int)
  · clear h
    go_enter Try.func5, Try.ntmps5
    go_wp2_with (go_at_call 9; refine (awake6 _).mono ?_ ; rintro e w0 ⟨rfl, b0⟩)
    go_ret
    exact ⟨rfl, b0⟩
  · have h2 := h.resolve_left h1
    have g1 : decide ((100 : Int) < (l.length : Int)) = false := by simpa using h1
    clear h
    go_enter Try.func5, Try.ntmps5
    go_wp2_with (go_at_call 9; refine (awake6 _).mono ?_ ; rintro e w0 ⟨rfl, b0⟩)
    go_ret
    exact ⟨rfl, b0⟩

set_option maxRecDepth 100000 in
set_option maxHeartbeats 1000000 in
theorem plays_none (l : List Int) (a : Option Addr) (cap : Nat) (w : World) (hsl : Sl w [] .u64 (.slice a l.length cap) l) (h1 : ¬ (100 : Int) < (l.length : Int)) (a' : Option Addr) (cap' : Nat) :
    Calls Try.prog 5 #[.slice a l.length cap, .slice a' 0 cap'] w fun e w' => e = .returned (.bool true) ∧ Below w.heap.size w w' := by
  have g1 : decide ((100 : Int) < (l.length : Int)) = false := by simpa using h1
  have hl12 : l.length < 1000000000000 := by omega
  go_enter Try.func5, Try.ntmps5
  go_wp2_with fail
  refine (awake6 w).mono ?_
  rintro e w0 ⟨rfl, b0⟩
  have hsl0 := sl_below hsl b0
  clear hsl
  go_wp2_with fail
  refine (New_c _ _ _ hsl0 hl12).mono ?_
  rintro e w1 ⟨sb, g, rfl, hsb, hg, hlt, hltg, s1, b1⟩
  have b01 := b0.trans (b1.mono b0.size)
  clear b0 b1 hsl0 hsb hg
  go_wp2_with fail
  refine wp_loop_rounds 1 ?_
  rw [rounds_succ]
  go_wp2_with (first | (go_at_call 22; refine (Count_nil _).mono ?_; rintro e w7 ⟨rfl, hw⟩; obtain rfl := hw.symm) | (go_at_call 23; refine (Len_nil _).mono ?_; rintro e w7 ⟨rfl, hw⟩; obtain rfl := hw.symm) | (go_at_call 21; refine (All_nil _).mono ?_; rintro e w7 ⟨rfl, hw⟩; obtain rfl := hw.symm))
  go_ret
  exact ⟨rfl, b01⟩

theorem walk_CellsPlays (a : Option Addr) (len cap : Nat) (zs : List Int) (a' : Option Addr) (len' cap' n : Nat) (w : World) (hr : IsRow .u64 w a len cap zs) (hs : IsRows [.int .u8, .int .i64, .int .u64, .int .u64] w (.slice a' len' cap') n) :
    Calls Try.prog 5 #[.slice a len cap, .slice a' len' cap'] w fun e w' => e = .returned (.bool true) ∧ Below w.heap.size w w' := by
  obtain ⟨l, rfl, hsl, _⟩ := row_opens hr
  by_cases h1 : (100 : Int) < (l.length : Int)
  · exact plays_other l a cap a' len' cap' w hsl (.inl h1)
  by_cases h2 : (100 : Int) < (len' : Int)
  · exact plays_other l a cap a' len' cap' w hsl (.inr h2)
  have hn : n = len' := by
    rcases hs with ⟨h, rfl⟩ | ⟨_, _, h, _⟩
    · simp only [Value.slice.injEq] at h; exact h.2.1.symm
    · simp only [Value.slice.injEq] at h; exact h.2.1.symm
  subst hn
  by_cases h0 : n = 0
  · subst h0
    exact plays_none l a cap w hsl h1 a' cap'
  · obtain ⟨b, off, c, hv, hb, hacts⟩ := acts_at hs (by omega)
    simp only [Value.slice.injEq] at hv
    obtain ⟨rfl, _, rfl⟩ := hv
    exact plays_load l a cap b off n cap' w hsl hb hacts h1 h2

end Go.Proofs.Ytmbffmgjjdihjaa
